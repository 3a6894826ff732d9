/- Parts of one proof, laid by a program. -/
import Derived.Test.YtefekdejgbceiaaGreatM00
import Derived.Test.YtefekdejgbceiaaGreatM09
set_option linter.unusedSimpArgs false
set_option linter.unusedVariables false
set_option maxRecDepth 100000
set_option maxHeartbeats 12800000
namespace Go.PN
open Go.AI
def ZMe (n:Nat) (ns:List DN) (e:(Int×Int×Int)×Int):Prop:=
 (e.1.1=119∧WOk n ns e.1.2.1 e.1.2.2 e.2)∨(e.1.1=107∧UOk n ns e.1.2.1 e.1.2.2 e.2)∨(e.1.1=99∧RefOk ns e.1.2.1∧e.2=cntZ ns e.1.2.1)
def ZMem (n:Nat) (ns:List DN) (mm:Mem3):Prop:=∀e∈mm,ZMe n ns e
def lvE (n:Nat) (ns:List DN) (k:Int×Int×Int):Int:=if k.1=119 then min (evZ n ns k.2.1) (evZ n ns k.2.2) else evZ n ns k.2.1
theorem ZMe.later {n:Nat} {x y:List DN} {k:Nat} (h:ZLat n x y k) (hx:ZTab n x) {e:(Int×Int×Int)×Int} (he:ZMe n x e):ZMe n y e:=by
 rcases he with ⟨e1,e2⟩|⟨e1,e2⟩|⟨e1,e2,e3⟩
 ·exact .inl ⟨e1,e2.later h hx⟩
 ·exact .inr (.inl ⟨e1,e2.later h hx⟩)
 ·refine .inr (.inr ⟨e1,h.ref e2,?_⟩)
  obtain⟨zs,rfl⟩:=h.pre
  rw [cnt_app hx e2];exact e3
theorem ZMem.later {n:Nat} {x y:List DN} {k:Nat} (h:ZLat n x y k) (hx:ZTab n x) {mm:Mem3} (hm:ZMem n x mm):ZMem n y mm:=fun e he=>(hm e he).later h hx
theorem ZMe.lv {n:Nat} {x y:List DN} {k:Nat} (h:ZLat n x y k) {e:(Int×Int×Int)×Int} (he:ZMe n x e):lvE n y e.1=lvE n x e.1:=by
 unfold lvE
 rcases he with ⟨e1,e2⟩|⟨e1,e2⟩|⟨e1,e2,e3⟩
 ·rw [if_pos e1,if_pos e1,h.ev e2.pa,h.ev e2.pb]
 ·rw [if_neg om,if_neg om,h.ev e2.pa]
 ·rw [if_neg om,if_neg om,h.ev e2]
structure ZS (n:Nat) (og:Option Nat) (ns:List DN) (mm:Mem3):Prop where
 og:og=none→ns.length=0
 tab:ZTab n ns
 mem:ZMem n ns mm
structure ZP (n:Nat) (ns:List DN) (mm:Mem3) (L:Int) (k:Nat) (og':Option Nat) (ns':List DN) (mm':Mem3):Prop where
 og:og'=none→ns'.length=0
 lat:ZLat n ns ns' k
 mem:ZMem n ns' mm'
 new:∀e∈mm',e∈mm∨L≤lvE n ns' e.1
theorem ZP.zs {n:Nat} {ns:List DN} {mm:Mem3} {L:Int} {k:Nat} {og':Option Nat} {ns':List DN} {mm':Mem3} (h:ZP n ns mm L k og' ns' mm'):ZS n og' ns' mm':=⟨h.og,h.lat.tab,h.mem⟩
theorem ZS.same {n:Nat} {og:Option Nat} {ns:List DN} {mm:Mem3} (h:ZS n og ns mm) (L:Int) (k:Nat):ZP n ns mm L k og ns mm:=⟨h.og,ZLat.refl h.tab k,h.mem,fun _ he=>.inl he⟩
theorem ZP.trans {n:Nat} {ns ns1 ns2:List DN} {mm mm1 mm2:Mem3} {L L1 L2:Int} {i j k:Nat} {o1 o2:Option Nat} (h:ZP n ns mm L1 i o1 ns1 mm1) (h2:ZP n ns1 mm1 L2 j o2 ns2 mm2) (hk:i+j≤k) (l1:L≤L1) (l2:L≤L2):ZP n ns mm L k o2 ns2 mm2:=
 ⟨h2.og,h.lat.trans h2.lat hk,h2.mem,fun e he=>by
  rcases h2.new e he with h3|h3
  ·rcases h.new e h3 with h4|h4
   ·exact .inl h4
   ·right
    rw [(h.mem e h3).lv h2.lat]
    omega
  ·exact .inr om⟩
theorem ZP.mono {n:Nat} {ns ns1:List DN} {mm mm1:Mem3} {L L1:Int} {i k:Nat} {o1:Option Nat} (h:ZP n ns mm L1 i o1 ns1 mm1) (hk:i≤k) (l1:L≤L1):ZP n ns mm L k o1 ns1 mm1:=
 ⟨h.og,⟨h.lat.tab,h.lat.pre,Nat.le_trans h.lat.len (Nat.add_le_add_left hk _)⟩,h.mem,fun e he=>(h.new e he).imp id fun x=>Int.le_trans l1 x⟩
theorem ZP.make {n:Nat} {ns ns1:List DN} {mm mm1:Mem3} {L:Int} {i k:Nat} {o1 o2:Option Nat} (h:ZP n ns mm L i o1 ns1 mm1) {ns2:List DN} (l:ZLat n ns1 ns2 1) (ho:o2=none→ns2.length=0) (hk:i+1≤k):ZP n ns mm L k o2 ns2 mm1:=
 ⟨ho,h.lat.trans l hk,h.mem.later l h.lat.tab,fun e he=>(h.new e he).imp id fun x=>by rw [(h.mem e he).lv l];exact x⟩
theorem ZP.note {n:Nat} {ns ns1:List DN} {mm mm1:Mem3} {L L':Int} {i:Nat} {o1:Option Nat} (h:ZP n ns mm L' i o1 ns1 mm1) {e:(Int×Int×Int)×Int} (he:ZMe n ns1 e) (hL:L≤L') (hl:L≤lvE n ns1 e.1):ZP n ns mm L i o1 ns1 (mm1++[e]):=
 ⟨h.og,h.lat,fun x hx=>by
  rcases List.mem_append.1 hx with hx|hx
  ·exact h.mem x hx
  ·rw [List.mem_singleton] at hx;subst hx;exact he,fun x hx=>by
  rcases List.mem_append.1 hx with hx|hx
  ·exact(h.new x hx).imp id fun y=>Int.le_trans hL y
  ·rw [List.mem_singleton] at hx;subst hx;exact .inr hl⟩
theorem ZP.absent {n:Nat} {ns ns1:List DN} {mm mm1:Mem3} {L:Int} {i:Nat} {o1:Option Nat} (h:ZP n ns mm L i o1 ns1 mm1) {k:Int×Int×Int} (hk:memGet k mm=none) (hl:lvE n ns1 k<L):memGet k mm1=none:=
 mem_none' fun e he hc=>by
  rcases h.new e he with h1|h1
  ·exact mem_none hk e h1 hc
  ·rw [hc] at h1;omega
end Go.PN
namespace Go.Proofs.YtefekdejgbceiaaGreat
open Go.AI Go.PN
attribute [local irreducible] aw Fa Fh DrK
theorem remember_fh (gT gU gM:Nat) {og:Option Nat} {ns:List DN} {mm:Mem3} (hb:Heap) (f:FuncId) (gs':List Nat) (op a b:Int) (hog:og=none→ns.length=0) (hn:ns.length≤1000000000) (Q:Option Nat→List DN→Mem3→Int→Prop)
  (hf:memGet (op,a,b) mm=none→Fh Tryz.prog f (ZHp gT gU gM og ns mm++hb) ([]++gs'.map fun g=>.c (.optr g 0)) (fun x h=>∃og' ns' mm' r,Q og' ns' mm' r∧(og'=none→ns'.length=0)∧ns'.length≤1000000000∧memGet (op,a,b) mm'=none∧x=.c (.int .i64 r)∧h=ZHp gT gU gM og' ns' mm'++hb)):
  Fh Tryz.prog 169 (ZHp gT gU gM og ns mm++hb) [.c (.optr gT 0),.c (.int .u8 op),.c (.int .i64 a),.c (.int .i64 b),.c (fnC f gs')]
   (fun x h=>(∃r,memGet (op,a,b) mm=some r∧x=.c (.int .i64 r)∧h=ZHp gT gU gM og ns mm++hb)∨(memGet (op,a,b) mm=none∧∃og' ns' mm' r,Q og' ns' mm' r∧x=.c (.int .i64 r)∧h=ZHp gT gU gM og' ns' (mm'++[((op,a,b),r)])++hb)):=by
 refine fh_of_body Tryz.func169 rfl rfl (by simp [Tryz.ntmps169]) fun C hC=> ?_
 simp only [initS,Nat.reduceAdd]
 refine aw_nd fun hnd=> ?_
 have hnd0:(ZHp gT gU gM og ns mm).keys.Nodup:=(List.sublist_append_left _ _).map _|>.nodup hnd
 obtain⟨d,d4⟩:=zh_ne hnd0
 have hlen:=lenCV_gs (s:=3) hog
 unfold ZHp ZH
 simp only [List.cons_append,List.nil_append]
 repeat first|apply wa1|apply wa2|apply wa3|apply wa4|apply wa5 rfl|apply wa6|apply wa7|(refine wb1 rfl fun R r=>?_;simp only[go_sem,d,↓hlen];with_reducible show R (some _);with_reducible refine r _ _ ?_;clear r R)
 refine aw_alloc rfl rfl rfl (by simp only[go_sem,d,↓hlen]<;>rfl) fun g9 hn_g9=> ?_
 replace hn_g9:=Heap.ne_of hn_g9
 first|dsimp only [Heap.ne,gh] at hn_g9|dsimp only [Heap.ne] at hn_g9|skip
 (try simp only[go_sem,d,↓hlen,hn_g9])
 repeat first|apply wa1|apply wa2|apply wa3|apply wa4|apply wa5 rfl|apply wa6|apply wa7|(refine wb1 rfl fun R r=>?_;simp only[go_sem,d,↓hlen,hn_g9];with_reducible show R (some _);with_reducible refine r _ _ ?_;clear r R)
 refine aw_store rfl rfl rfl rfl (by simp only[go_sem,d,↓hlen,hn_g9]<;>rfl) (by simp only[go_sem,d,↓hlen,hn_g9]<;>rfl) (by simp only[go_sem,d,↓hlen,hn_g9]<;>rfl) (by simp only[go_sem,d,↓hlen,hn_g9]<;>rfl) (fun _ e=>by cases e) (by rfl) (by rfl) (by first|omega|simp) rfl ?_
 (try simp only[go_sem,d,↓hlen,hn_g9])
 repeat first|apply wa1|apply wa2|apply wa3|apply wa4|apply wa5 rfl|apply wa6|apply wa7|(refine wb1 rfl fun R r=>?_;simp only[go_sem,d,↓hlen,hn_g9];with_reducible show R (some _);with_reducible refine r _ _ ?_;clear r R)
 refine aw_dr 11 ty_mixed (by kernel_rfl) ?_
 repeat first|apply wa1|apply wa2|apply wa3|apply wa4|apply wa5 rfl|apply wa6|apply wa7|(refine wb1 rfl fun R r=>?_;simp only[go_sem,d,↓hlen,hn_g9];with_reducible show R (some _);with_reducible refine r _ _ ?_;clear r R)|apply wa8|(refine wd1 rfl fun R r=>?_;simp only[go_sem,d,↓hlen,hn_g9];with_reducible show R (some _);with_reducible refine r _ _ ?_;clear r R)
 refine drk_lookup2 (a:=(op,a,b)) (kv:=mmL mm) (Kf:=keyS) (kt:=216) (et:=3) rfl rfl rfl (by kernel_rfl) ty_ks ty_iz (by simp only[go_sem,d,↓hlen,hn_g9]<;>rfl) (by simp only[go_sem,d,↓hlen,hn_g9]<;>rfl) (by simp only[go_sem,d,↓hlen,hn_g9]<;>rfl) keyS_rep ?_
 (try simp only[go_sem,d,↓hlen,hn_g9])
 rw [mm_get]
 cases hfm:memGet (op,a,b) mm with
 |some r=>
  try simp only [Option.map_some,Option.getD_some,Option.isSome_some,cstC]
  repeat first|apply wa1|apply wa2|apply wa3|apply wa4|apply wa5 rfl|apply wa6|apply wa7|(refine wb1 rfl fun R r=>?_;simp only[go_sem,d,↓hlen,hn_g9];with_reducible show R (some _);with_reducible refine r _ _ ?_;clear r R)|apply wa8|(refine wd1 rfl fun R r=>?_;simp only[go_sem,d,↓hlen,hn_g9];with_reducible show R (some _);with_reducible refine r _ _ ?_;clear r R)
  refine aw_condF (by simp only[go_sem,d,↓hlen,hn_g9]<;>rfl) ?_
  repeat first|apply wa1|apply wa2|apply wa3|apply wa4|apply wa5 rfl|apply wa6|apply wa7|(refine wb1 rfl fun R r=>?_;simp only[go_sem,d,↓hlen,hn_g9];with_reducible show R (some _);with_reducible refine r _ _ ?_;clear r R)|apply wa8|(refine wd1 rfl fun R r=>?_;simp only[go_sem,d,↓hlen,hn_g9];with_reducible show R (some _);with_reducible refine r _ _ ?_;clear r R)
  refine aw_keep [(10,.c (.int .i64 r))] (ZHp gT gU gM og ns mm++hb) (by simp only[go_sem,d,↓hlen,hn_g9]<;>and_intros<;>first|exact True.intro|(with_reducible rfl)|exact c_int om|rfl) (List.Sublist.cons _ (List.Sublist.refl _)) ?_
  (refine aw_rethq rfl fun R r=>?_;simp only[go_sem,d,↓hlen,hn_g9];refine r _ rfl ?_;clear r R)
  exact .inl ⟨r,rfl,rfl,rfl⟩
 |none=>
  try simp only [Option.map_none,Option.getD_none,Option.isSome_none,cstC]
  repeat first|apply wa1|apply wa2|apply wa3|apply wa4|apply wa5 rfl|apply wa6|apply wa7|(refine wb1 rfl fun R r=>?_;simp only[go_sem,d,↓hlen,hn_g9];with_reducible show R (some _);with_reducible refine r _ _ ?_;clear r R)|apply wa8|(refine wd1 rfl fun R r=>?_;simp only[go_sem,d,↓hlen,hn_g9];with_reducible show R (some _);with_reducible refine r _ _ ?_;clear r R)
  refine aw_condT (by simp only[go_sem,d,↓hlen,hn_g9]<;>rfl) ?_
  repeat first|apply wa1|apply wa2|apply wa3|apply wa4|apply wa5 rfl|apply wa6|apply wa7|(refine wb1 rfl fun R r=>?_;simp only[go_sem,d,↓hlen,hn_g9];with_reducible show R (some _);with_reducible refine r _ _ ?_;clear r R)
  refine aw_callhv (gs:=gs') (hc:=ZHp gT gU gM og ns mm++hb) (hr:=[(g9,.cells 216 3 (ofL [.int .u8 op,.int .i64 a,.int .i64 b]))]) (hf hfm) rfl rfl rfl (by simp only[go_sem,d,↓hlen,hn_g9]<;>rfl) (List.perm_append_singleton _ _).symm (by first|exact True.intro|simp only[go_sem,d,↓hlen,hn_g9]<;>and_intros<;>first|exact True.intro|exact .c (.refl _)|exact .c wl2|exact .agg (lel_refl _)|exact .agg (by simp only[LeL];and_intros<;>first|exact True.intro|exact .refl _|exact wl2)|exact .c .nils) ?_
  rintro _ _ ⟨og1,ns1,mm1,r,hq,hog1,hl1,hm1,rfl,rfl⟩ _
  (try simp only[go_sem,d,↓hlen,hn_g9])
  refine aw_perm (List.perm_append_singleton _ _) ?_
  refine aw_nd fun hnd2=> ?_
  have hnd3:=(List.nodup_cons.1 hnd2).2
  have hnd4:(ZHp gT gU gM og1 ns1 mm1).keys.Nodup:=(List.sublist_append_left _ _).map _|>.nodup hnd3
  have e9:=Heap.ne_of (List.nodup_cons.1 hnd2).1
  unfold ZHp ZH at e9⊢
  simp only [List.cons_append,List.nil_append] at e9⊢
  dsimp only [Heap.ne] at e9
  have e9':=And.intro e9.1 (And.intro e9.2.1 e9.2.2.1)
  have hlen1:=lenCV_gs (s:=3) hog1
  repeat first|apply wa1|apply wa2|apply wa3|apply wa4|apply wa5 rfl|apply wa6|apply wa7|(refine wb1 rfl fun R r=>?_;simp only[go_sem,d,↓hlen,hn_g9,e9',↓hlen1];with_reducible show R (some _);with_reducible refine r _ _ ?_;clear r R)
  refine aw_dr 6 ty_mixed (by kernel_rfl) ?_
  repeat first|apply wa1|apply wa2|apply wa3|apply wa4|apply wa5 rfl|apply wa6|apply wa7|(refine wb1 rfl fun R r=>?_;simp only[go_sem,d,↓hlen,hn_g9,e9',↓hlen1];with_reducible show R (some _);with_reducible refine r _ _ ?_;clear r R)|apply wa8|(refine wd1 rfl fun R r=>?_;simp only[go_sem,d,↓hlen,hn_g9,e9',↓hlen1];with_reducible show R (some _);with_reducible refine r _ _ ?_;clear r R)
  refine aw_mapNew (a:=(op,a,b)) (kv:=mmL mm1) (Kf:=keyS) (v:=.int .i64 r) rfl rfl rfl (kt:=216) (et:=3) (by kernel_rfl) ty_ks (by simp only[go_sem,d,↓hlen,hn_g9,e9',↓hlen1]<;>rfl) (by simp only[go_sem,d,↓hlen,hn_g9,e9',↓hlen1]<;>rfl) (by simp only[go_sem,d,↓hlen,hn_g9,e9',↓hlen1]<;>rfl) keyS_rep (cv:=.c (.int .i64 r)) (by simp only[go_sem,d,↓hlen,hn_g9,e9',↓hlen1]<;>rfl) (fun S w u h=>h) (by rw [mm_get,hm1];rfl) (by simp only[go_sem,d,↓hlen,hn_g9,e9',↓hlen1]<;>rfl) ?_
  rw [mmL_push]
  (try simp only[go_sem,d,↓hlen,hn_g9,e9',↓hlen1])
  repeat first|apply wa1|apply wa2|apply wa3|apply wa4|apply wa5 rfl|apply wa6|apply wa7|(refine wb1 rfl fun R r=>?_;simp only[go_sem,d,↓hlen,hn_g9,e9',↓hlen1];with_reducible show R (some _);with_reducible refine r _ _ ?_;clear r R)|apply wa8|(refine wd1 rfl fun R r=>?_;simp only[go_sem,d,↓hlen,hn_g9,e9',↓hlen1];with_reducible show R (some _);with_reducible refine r _ _ ?_;clear r R)
  refine aw_keep [(10,.c (.int .i64 r))] (ZHp gT gU gM og1 ns1 (mm1++[((op,a,b),r)])++hb) (by simp only[go_sem,d,↓hlen,hn_g9,e9',↓hlen1]<;>and_intros<;>first|exact True.intro|(with_reducible rfl)|exact c_int om|rfl) (List.Sublist.cons _ (List.Sublist.refl _)) ?_
  (refine aw_rethq rfl fun R r=>?_;simp only[go_sem,d,↓hlen,hn_g9,e9',↓hlen1];refine r _ rfl ?_;clear r R)
  first|exact .inr ⟨rfl,og1,ns1,mm1,r,hq,rfl,rfl⟩|exact .inr ⟨og1,ns1,mm1,r,hq,rfl,rfl⟩|exact⟨og1,ns1,mm1,r,hq,rfl,rfl⟩
end Go.Proofs.YtefekdejgbceiaaGreat
namespace Go.PN
open Go.AI
theorem ev24 {n:Nat} {ns:List DN} {r:Int} (h2:2≤r):evZ 24 ns r=evZ n ns r:=by rw [evZ_node h2,evZ_node h2]
theorem kids24 {n:Nat} {ns:List DN} {r v:Int} (hv:v<n) (hn:n≤24):kidsZ 24 ns r v=kidsZ n ns r v:=by
 unfold kidsZ
 by_cases h2:r<2
 ·rw [ev_leaf h2,ev_leaf h2,if_pos om,if_pos om]
 ·rw [ev24 (n:=n) om]
end Go.PN
namespace Go.Proofs.YtefekdejgbceiaaGreat
open Go.AI Go.PN
attribute [local irreducible] aw Fa Fh DrK
abbrev WB (gA gB gC gT:Nat) (a b:Int):Heap:=[(gC,.cells 3 1 (ofL [.int .i64 b])),(gB,.cells 3 1 (ofL [.int .i64 a])),(gA,.cells 169 1 (ofL [.optr gT 0]))]
def WithoutOk (n gT gU gM:Nat) (k:Nat):Prop:=∀(og:Option Nat) (ns:List DN) (mm:Mem3) (a b:Int),ZS n og ns mm→ns.length+3^k≤1000000000→RefOk ns a→RefOk ns b→(n:Int)+1≤min (evZ n ns a) (evZ n ns b)+k→
    Fh Tryz.prog 183 (ZHp gT gU gM og ns mm) [.c (.optr gT 0),.c (.int .i64 a),.c (.int .i64 b)]
     (fun x h=>∃og' ns' mm' r,ZP n ns mm (min (evZ n ns a) (evZ n ns b)) (3^k-1) og' ns' mm'∧WOk n ns' a b r∧x=.c (.int .i64 r)∧h=ZHp gT gU gM og' ns' mm')
theorem zwclo_fh (n gT gU gM:Nat) (h24:n≤24) (k:Nat) (ih:WithoutOk n gT gU gM k) (gA gB gC:Nat) (og:Option Nat) (ns:List DN) (mm:Mem3) (a b:Int) (hs:ZS n og ns mm) (hn:ns.length+3^(k+1)≤1000000000) (ha:RefOk ns a) (hb:RefOk ns b) (ha2:2≤a) (hb2:2≤b) (hk:(n:Int)+1≤min (evZ n ns a) (evZ n ns b)+(k+1)):
  Fh Tryz.prog 199 (ZHp gT gU gM og ns mm++WB gA gB gC gT a b) ([]++[gA,gB,gC].map fun g=>.c (.optr g 0))
   (fun x h=>∃og' ns' mm' r,(ZP n ns mm (min (evZ n ns a) (evZ n ns b)+1) (3^(k+1)-1) og' ns' mm'∧WOk n ns' a b r)∧(og'=none→ns'.length=0)∧ns'.length≤1000000000∧x=.c (.int .i64 r)∧h=ZHp gT gU gM og' ns' mm'++WB gA gB gC gT a b):=by
 have hp3:3^(k+1)=3^k+3^k+3^k:=by rw [Nat.pow_succ];omega
 have hp1:0<3^k:=Nat.pow_pos om
 simp only [List.nil_append,List.map_cons,List.map_nil]
 refine fh_of_body Tryz.func199 rfl rfl (by simp [Tryz.ntmps199]) fun C hC=> ?_
 simp only [initS,Nat.reduceAdd]
 refine aw_nd fun hnd=> ?_
 have hnd0:(WB gA gB gC gT a b).keys.Nodup:=(List.sublist_append_right _ _).map _|>.nodup hnd
 simp only [Heap.keys,List.map_cons,List.map_nil] at hnd0
 replace hnd0:=ndP_of hnd0
 dsimp only [ndP,neA] at hnd0
 refine aw_perm (List.perm_append_comm) ?_
 simp only [WB,List.cons_append,List.nil_append]
 refine yG hnd0 ?_
 refine aw_cw ([(gC,.cells 3 1 (ofL [.int .i64 b])),(gB,.cells 3 1 (ofL [.int .i64 a])),(gA,.cells 169 1 (ofL [.optr gT 0]))]) [(0,0),(1,0),(3,0),(4,0),(2,1),(5,1),(6,0),(7,0)] ty_mixed (by kernel_rfl) eI ?_
 refine yG hnd0 ?_
 refine cw_callh (hc:=ZHp gT gU gM og ns mm) (hr:=WB gA gB gC gT a b) rfl (zevent_fh gT gU gM og ns mm a hs.og om ha) rfl rfl rfl (List.perm_append_comm (l₁:=WB gA gB gC gT a b)) (zL hnd0) (by rintro _ _ ⟨rfl,rfl⟩;exact has0_app2 eI) ?_ (hm:=.inr ⟨rfl,rfl⟩)
 rintro _ _ ⟨rfl,rfl⟩ _
 refine ySG hnd0 ?_
 refine cw_callh (hc:=ZHp gT gU gM og ns mm) (hr:=WB gA gB gC gT a b) rfl (zevent_fh gT gU gM og ns mm b hs.og om hb) rfl rfl rfl (.refl _) (zL hnd0) (by rintro _ _ ⟨rfl,rfl⟩;exact has0_app2 eI) ?_ (hm:=.inr ⟨rfl,rfl⟩)
 rintro _ _ ⟨rfl,rfl⟩ _
 refine ySG hnd0 ?_
 obtain⟨v,hv⟩:∃v,min (evZ n ns a) (evZ n ns b)=v:=⟨_,rfl⟩
 have hvm:(if evZ 24 ns b<evZ 24 ns a then evZ 24 ns b else evZ 24 ns a)=v:=by
  rw [ev24 (n:=n) ha2,ev24 (n:=n) hb2]
  split<;>omega
 have va:=evZ_le hs.tab ha
 have vb:=evZ_le hs.tab hb
 have va2:=va.2.2 ha2
 rw [hvm]
 rw [hv] at hk⊢
 have ka:=kidsZ_ok hs.tab ha (v:=v) om om om
 have kb:=kidsZ_ok hs.tab hb (v:=v) om om om
 refine aw_perm (List.perm_append_comm (l₁:=ZHp gT gU gM og ns mm)) ?_
 simp only [WB,List.cons_append,List.nil_append]
 refine yG hnd0 ?_
 refine aw_callh (hc:=ZHp gT gU gM og ns mm) (hr:=WB gA gB gC gT a b) (zkids_fh gT gU gM og ns mm a v hs.og om ha om) rfl rfl rfl (List.perm_append_comm (l₁:=WB gA gB gC gT a b)) (zL hnd0) ?_
 rintro _ _ ⟨rfl,rfl⟩ _
 rw [kids24 (n:=n) om h24]
 refine yS hnd0 ?_
 refine aw_perm (List.perm_append_comm (l₁:=ZHp gT gU gM og ns mm)) ?_
 simp only [WB,List.cons_append,List.nil_append]
 refine yG hnd0 ?_
 refine aw_callh (hc:=ZHp gT gU gM og ns mm) (hr:=WB gA gB gC gT a b) (zkids_fh gT gU gM og ns mm b v hs.og om hb om) rfl rfl rfl (List.perm_append_comm (l₁:=WB gA gB gC gT a b)) (zL hnd0) ?_
 rintro _ _ ⟨rfl,rfl⟩ _
 rw [kids24 (n:=n) om h24]
 refine yS hnd0 ?_
 refine aw_perm (List.perm_append_comm (l₁:=ZHp gT gU gM og ns mm)) ?_
 simp only [WB,List.cons_append,List.nil_append]
 refine yG hnd0 ?_
 generalize (kidsZ n ns a v).1=a0 at*
 generalize (kidsZ n ns a v).2=a1 at*
 generalize (kidsZ n ns b v).1=b0 at*
 generalize (kidsZ n ns b v).2=b1 at*
 refine aw_cw ([(gC,.cells 3 1 (ofL [.int .i64 b])),(gB,.cells 3 1 (ofL [.int .i64 a])),(gA,.cells 169 1 (ofL [.optr gT 0]))]) [(0,0),(1,0),(2,0),(3,0),(4,0),(6,0),(7,0),(8,0),(9,0),(11,0),(5,1),(10,1),(12,1),(13,1),(14,0)] ty_mixed (by kernel_rfl) eI ?_
 refine yG hnd0 ?_
 have q1:=ka.ea
 have q2:=ka.eb
 have q3:=kb.ea
 have q4:=kb.eb
 refine cw_callh (hc:=ZHp gT gU gM og ns mm) (hr:=WB gA gB gC gT a b) rfl (ih og ns mm a0 b0 hs om ka.ra kb.ra om) rfl rfl rfl (List.perm_append_comm (l₁:=WB gA gB gC gT a b)) (zL hnd0) (by rintro _ _ ⟨_,_,_,_,_,_,rfl,rfl⟩;exact has0_app2 eI) ?_ (hm:=.inr ⟨rfl,rfl⟩)
 rintro _ _ ⟨og1,ns1,mm1,x,p1,w1,rfl,rfl⟩ _
 refine ySG hnd0 ?_
 have ll1:=p1.lat.len
 refine cw_callh (hc:=ZHp gT gU gM og1 ns1 mm1) (hr:=WB gA gB gC gT a b) rfl (ih og1 ns1 mm1 a1 b0 p1.zs om (p1.lat.ref ka.rb) (p1.lat.ref kb.ra) (by rw [p1.lat.ev ka.rb,p1.lat.ev kb.ra];omega)) rfl rfl rfl (.refl _) (zL hnd0) (by rintro _ _ ⟨_,_,_,_,_,_,rfl,rfl⟩;exact has0_app2 eI) ?_ (hm:=.inr ⟨rfl,rfl⟩)
 rw [p1.lat.ev ka.rb,p1.lat.ev kb.ra]
 rintro _ _ ⟨og2,ns2,mm2,y,p2,w2,rfl,rfl⟩ _
 refine ySG hnd0 ?_
 have l12:=p1.lat.trans p2.lat (Nat.le_refl _)
 have ll2:=p2.lat.len
 have wy:=w2.ev
 rw [l12.ev ka.rb,l12.ev kb.ra] at wy
 refine cw_callh (hc:=ZHp gT gU gM og2 ns2 mm2) (hr:=WB gA gB gC gT a b) rfl (ih og2 ns2 mm2 y b1 p2.zs om w2.pr (l12.ref kb.rb) (by rw [l12.ev kb.rb];omega)) rfl rfl rfl (.refl _) (zL hnd0) (by rintro _ _ ⟨_,_,_,_,_,_,rfl,rfl⟩;exact has0_app2 eI) ?_ (hm:=.inr ⟨rfl,rfl⟩)
 rw [l12.ev kb.rb]
 rintro _ _ ⟨og3,ns3,mm3,z,p3,w3,rfl,rfl⟩ _
 refine ySG hnd0 ?_
 have ll3:=p3.lat.len
 have pa:=(p1.trans p2 (Nat.le_refl _) (L:=v+1) om om).trans p3 (Nat.le_refl _) (L:=v+1) om om
 refine cw_callh (hc:=ZHp gT gU gM og3 ns3 mm3) (hr:=WB gA gB gC gT a b) rfl (zmake_fh gT gU gM og3 ns3 mm3 v x z p3.og om) rfl rfl rfl (.refl _) (zL hnd0) (by rintro _ _ ⟨_,_,rfl,rfl⟩;exact has0_app2 eI) ?_ (hm:=.inr ⟨rfl,rfl⟩)
 rintro _ _ ⟨og4,ho4,rfl,rfl⟩ _
 refine ySG hnd0 ?_
 obtain⟨m1,m2,m3,_⟩:=w_step hs.tab ha hb om om hv.symm ka kb p1.lat w1 p2.lat w2 p3.lat w3
 refine yU hnd0 ?_
 exact⟨og4,_,mm3,_,⟨pa.make m1 ho4 om,m3⟩,ho4,by have:=m2.len;omega,rfl,rfl⟩
theorem zwithout_ok (n gT gU gM:Nat) (h24:n≤24):∀k,WithoutOk n gT gU gM k:=by
 intro k
 induction k with
 |zero=>
  intro og ns mm a b hs _ ha _ hk
  have:=(evZ_le hs.tab ha).2.1
  omega
 |succ k ih=>
  intro og ns mm a b hs hn ha hb hk
  have hp1:0<3^(k+1):=Nat.pow_pos om
  refine fh_of_body Tryz.func183 rfl rfl (by simp [Tryz.ntmps183]) fun C hC=> ?_
  simp only [initS,Nat.reduceAdd]
  refine xG ?_
  refine xB fun gA hn_gA=>?_
  refine yG hn_gA ?_
  refine yB hn_gA fun gB hn_gB=>?_
  refine yG (oj hn_gA hn_gB) ?_
  refine yB (oj hn_gA hn_gB) fun gC hn_gC=>?_
  have J1:=oj hn_gA (oj hn_gB hn_gC)
  refine yG J1 ?_
  refine aw_split 10 (zE J1) (fun h1=> ?_) (fun h1=> ?_)<;>refine yS J1 ?_
  ·refine yGPG J1 ?_
   have h1':a=0:=by simpa using h1
   refine aw_keep [(6,.c (.int .i64 0))] (ZHp gT gU gM og ns mm) (zB J1) (List.Sublist.cons _ (List.Sublist.cons _ (List.Sublist.cons _ (List.Sublist.refl _)))) ?_
   refine yU J1 ?_
   exact⟨og,ns,mm,0,hs.same _ _,w_base hs.tab ha hb (.inl h1'),rfl,rfl⟩
  have h1':¬a=0:=by simpa using h1
  refine yG J1 ?_
  refine aw_callh (hc:=ZHp gT gU gM og ns mm) (hr:=WB gA gB gC gT a b) (zempty_fh gT gU gM og ns mm b hs.og om hs.tab hb) rfl rfl rfl (List.perm_append_comm (l₁:=WB gA gB gC gT a b)) (zL J1) ?_
  rintro _ _ ⟨rfl,rfl⟩ _
  refine aw_perm (List.perm_append_comm (l₁:=ZHp gT gU gM og ns mm)) ?_
  simp only [WB,List.cons_append,List.nil_append]
  refine yS J1 ?_
  cases hme:memZ ns b 0
  case true=>
   refine yGPG J1 ?_
   refine aw_keep [(6,.c (.int .i64 0))] (ZHp gT gU gM og ns mm) (zB J1) (List.Sublist.cons _ (List.Sublist.cons _ (List.Sublist.cons _ (List.Sublist.refl _)))) ?_
   refine yU J1 ?_
   exact⟨og,ns,mm,0,hs.same _ _,w_base hs.tab ha hb (.inr hme),rfl,rfl⟩
  refine yGNG J1 ?_
  refine aw_split 18 (zE J1) (fun h2=> ?_) (fun h2=> ?_)<;>refine yS J1 ?_
  ·refine yGPG J1 ?_
   have h2':b=0:=by simpa using h2
   refine aw_keep [(6,.c (.int .i64 a))] (ZHp gT gU gM og ns mm) (zB J1) (List.Sublist.cons _ (List.Sublist.cons _ (List.Sublist.cons _ (List.Sublist.refl _)))) ?_
   refine yU J1 ?_
   exact⟨og,ns,mm,a,hs.same _ _,w_base2 hs.tab ha hb hme (.inl h2'),rfl,rfl⟩
  have h2':¬b=0:=by simpa using h2
  refine yG J1 ?_
  refine yF J1 (fun h3=>?_) fun h3=>?_
  ·refine yG J1 ?_
   have h3':a=1:=by simpa using h3
   refine aw_keep [(6,.c (.int .i64 a))] (ZHp gT gU gM og ns mm) (zB J1) (List.Sublist.cons _ (List.Sublist.cons _ (List.Sublist.cons _ (List.Sublist.refl _)))) ?_
   refine yU J1 ?_
   exact⟨og,ns,mm,a,hs.same _ _,w_base2 hs.tab ha hb hme (.inr h3'),rfl,rfl⟩
  have h3':¬a=1:=by simpa using h3
  have h4:¬b=1:=fun e=>by
   subst e
   rw [mem_leaf om] at hme
   simp at hme
  refine yG J1 ?_
  refine aw_makeFunc (f:=199) (gs:=[gA,gB,gC]) rfl rfl rfl (zE J1) ?_
  refine yS J1 ?_
  have hm1:memGet (119,a,b) mm=none→Fh Tryz.prog 199 (ZHp gT gU gM og ns mm++WB gA gB gC gT a b) ([]++[gA,gB,gC].map fun g=>.c (.optr g 0)) (fun x h=>∃og' ns' mm' r,(ZP n ns mm (min (evZ n ns a) (evZ n ns b)+1) (3^(k+1)-1) og' ns' mm'∧WOk n ns' a b r)∧(og'=none→ns'.length=0)∧ns'.length≤1000000000∧memGet (119,a,b) mm'=none∧x=.c (.int .i64 r)∧h=ZHp gT gU gM og' ns' mm'++WB gA gB gC gT a b):=fun hm=>by
   refine(zwclo_fh n gT gU gM h24 k ih gA gB gC og ns mm a b hs hn ha hb (by unfold RefOk at ha;omega) (by unfold RefOk at hb;omega) om).mono ?_
   rintro x h ⟨og',ns',mm',r,⟨p,w⟩,e1,e2,e3,e4⟩
   refine⟨og',ns',mm',r,⟨p,w⟩,e1,e2,p.absent hm ?_,e3,e4⟩
   unfold lvE
   rw [if_pos rfl,p.lat.ev ha,p.lat.ev hb]
   omega
  refine aw_callh (hc:=ZHp gT gU gM og ns mm++WB gA gB gC gT a b) (hr:=[]) (remember_fh gT gU gM (WB gA gB gC gT a b) 199 [gA,gB,gC] 119 a b hs.og om _ hm1) rfl rfl rfl (by rw [List.append_nil];exact List.perm_append_comm (l₁:=WB gA gB gC gT a b)) (zL J1) ?_
  rintro _ _ (⟨r,hm,rfl,rfl⟩|⟨hm,og',ns',mm',r,⟨p,w⟩,rfl,rfl⟩) _
  ·rw [List.append_nil]
   refine ySG J1 ?_
   refine aw_keep [(6,.c (.int .i64 r))] (ZHp gT gU gM og ns mm) (zB J1) (List.sublist_append_left _ _) ?_
   refine yU J1 ?_
   have me:=hs.mem _ (mem_mem hm)
   rcases me with ⟨_,e2⟩|⟨e1,_⟩|⟨e1,_⟩
   ·exact⟨og,ns,mm,r,hs.same _ _,e2,rfl,rfl⟩
   ·cases e1
   ·cases e1
  ·rw [List.append_nil]
   refine ySG J1 ?_
   refine aw_keep [(6,.c (.int .i64 r))] (ZHp gT gU gM og' ns' (mm'++[((119,a,b),r)])) (zB J1) (List.sublist_append_left _ _) ?_
   refine yU J1 ?_
   refine⟨og',ns',_,r,p.note (.inl ⟨rfl,w⟩) om ?_,w,rfl,rfl⟩
   unfold lvE
   rw [if_pos rfl,p.lat.ev ha,p.lat.ev hb]
   exact Int.le_refl _
theorem zwithout_fh {n:Nat} (gT gU gM:Nat) (h24:n≤24) {og:Option Nat} {ns:List DN} {mm:Mem3} {a b:Int} (hs:ZS n og ns mm) (hn:ns.length+3^(n+1)≤1000000000) (ha:RefOk ns a) (hb:RefOk ns b):
  Fh Tryz.prog 183 (ZHp gT gU gM og ns mm) [.c (.optr gT 0),.c (.int .i64 a),.c (.int .i64 b)]
   (fun x h=>∃og' ns' mm' r,ZP n ns mm (min (evZ n ns a) (evZ n ns b)) (3^(n+1)-1) og' ns' mm'∧WOk n ns' a b r∧x=.c (.int .i64 r)∧h=ZHp gT gU gM og' ns' mm'):=
 zwithout_ok n gT gU gM h24 (n+1) og ns mm a b hs hn ha hb (by have:=evZ_le hs.tab ha;have:=evZ_le hs.tab hb;omega)
end Go.Proofs.YtefekdejgbceiaaGreat
namespace Go.PN
open Go.AI Go.Proofs.YtefekdejgbceiaaGreat
def exR (rs:List Int) (r:Int):Option Int:=if r<2 then some r else if r∈rs then some ((rs.idxOf r:Int)+2) else none
theorem exR_app {rs zs:List Int} {r x:Int} (h:exR rs r=some x):exR (rs++zs) r=some x:=by
 unfold exR at h⊢
 split at h
 ·rename_i h2;rw [if_pos h2];exact h
 ·rename_i h2
  rw [if_neg h2]
  split at h
  ·rename_i hm
   rw [if_pos (List.mem_append_left _ hm),List.idxOf_append,if_pos hm]
   exact h
  ·cases h
theorem exR_take {rs:List Int} {r x:Int} {j:Nat} (h:exR (rs.take j) r=some x):exR rs r=some x:=by
 have:=exR_app (zs:=rs.drop j) h
 rwa [List.take_append_drop] at this
theorem exR_lt {rs:List Int} {r x:Int} (h0:0≤r) (h:exR rs r=some x):0≤x∧x<rs.length+2:=by
 unfold exR at h
 split at h
 ·injection h with h;omega
 ·split at h
  ·rename_i hm
   injection h with h
   have:=List.idxOf_lt_length_of_mem hm
   omega
  ·cases h
theorem exR_inj {rs:List Int} {a b x:Int} (ha:exR rs a=some x) (hb:exR rs b=some x):a=b:=by
 unfold exR at ha hb
 split at ha
 ·injection ha with ha
  split at hb
  ·injection hb with hb;omega
  ·split at hb
   ·injection hb with hb;omega
   ·cases hb
 ·split at ha
  ·rename_i h1 hm
   injection ha with ha
   split at hb
   ·injection hb with hb;omega
   ·split at hb
    ·rename_i h2 hm2
     injection hb with hb
     have e:rs.idxOf a=rs.idxOf b:=by omega
     have l1:=List.idxOf_lt_length_of_mem hm
     have l2:=List.idxOf_lt_length_of_mem hm2
     have e1:=List.getElem_idxOf l1
     have e2:=List.getElem_idxOf l2
     rw [←e1,←e2]
     simp only [e]
    ·cases hb
  ·cases ha
structure ExOk (ns:List DN) (rs:List Int) (os:List DN):Prop where
 len:os.length=rs.length
 nd:rs.Nodup
 bd:∀r∈rs,2≤r∧r<ns.length+2
 node:∀j,j<rs.length→∃lo hi,exR (rs.take j) (ns.getD (rs.getD j 0-2).toNat dn0).lo=some lo∧exR (rs.take j) (ns.getD (rs.getD j 0-2).toNat dn0).hi=some hi∧os.getD j dn0=⟨(ns.getD (rs.getD j 0-2).toNat dn0).v,lo,hi⟩
theorem ExOk.nil (ns:List DN):ExOk ns [] []:=⟨rfl,List.nodup_nil,fun x hx=>absurd hx List.not_mem_nil,fun j hj=>absurd hj (Nat.not_lt_zero _)⟩
theorem ExOk.ref {ns:List DN} {rs:List Int} {os:List DN} (h:ExOk ns rs os) {j:Nat} (hj:j<rs.length):2≤rs.getD j 0∧rs.getD j 0<ns.length+2:=by
 rw [getDZ hj];exact h.bd _ (List.getElem_mem hj)
theorem ExOk.nsok {o:List Int} {ns:List DN} {rs:List Int} {os:List DN} (ht:TabOk o ns) (h:ExOk ns rs os):NsOk o.length os:=fun j hj=>by
 have hj':j<rs.length:=by rw [←h.len];exact hj
 obtain⟨lo,hi,e1,e2,e3⟩:=h.node j hj'
 have hb:=h.ref hj'
 have hi':(rs.getD j 0-2).toNat<ns.length:=by omega
 obtain⟨v0,v1,_,_,_,_⟩:=(ht _ hi').nk
 obtain⟨r1,r2⟩:=kids_ref ht hi'
 have b1:=exR_lt r1.1 e1
 have b2:=exR_lt r2.1 e2
 rw [List.length_take] at b1 b2
 rw [e3]
 exact⟨v0,v1,b1.1,by show lo<j+2;omega,b2.1,by show hi<j+2;omega⟩
theorem ExOk.find {ns:List DN} {rs:List Int} {os:List DN} (h:ExOk ns rs os) {r x:Int} (h2:2≤r) (e:exR rs r=some x):∃j,j<rs.length∧rs.getD j 0=r∧x=2+(j:Int):=by
 unfold exR at e
 rw [if_neg om] at e
 split at e
 ·rename_i hm
  injection e with e
  have l:=List.idxOf_lt_length_of_mem hm
  refine⟨_,l,?_,by omega⟩
  rw [getDZ l]
  exact List.getElem_idxOf l
 ·cases e
theorem ExOk.eval {o:List Int} {ns:List DN} {rs:List Int} {os:List DN} (ht:TabOk o ns) (h:ExOk ns rs os) (s:Nat):∀(n:Nat) (r x:Int),x.toNat≤n→0≤r→r<ns.length+2→exR rs r=some x→evalD os s x=evalD ns s r:=by
 intro n
 induction n with
 |zero=>
  intro r x hn h0 hr e
  have:=exR_lt h0 e
  by_cases h2:r<2
  ·unfold exR at e;rw [if_pos h2] at e;injection e with e;subst e
   rw [evalD_leaf om,evalD_leaf om]
  ·obtain⟨j,_,_,rfl⟩:=h.find om e
   omega
 |succ n ih=>
  intro r x hn h0 hr e
  by_cases h2:r<2
  ·unfold exR at e;rw [if_pos h2] at e;injection e with e;subst e
   rw [evalD_leaf om,evalD_leaf om]
  ·obtain⟨j,hj,er,rfl⟩:=h.find om e
   obtain⟨lo,hi,e1,e2,e3⟩:=h.node j hj
   rw [er] at e1 e2 e3
   have hi':(r-2).toNat<ns.length:=by omega
   obtain⟨r1,r2⟩:=kids_ref ht hi'
   have b1:=exR_lt r1.1 e1
   have b2:=exR_lt r2.1 e2
   rw [List.length_take] at b1 b2
   rw [evalD_step (h.nsok ht) om (by rw [h.len];omega)]
   unfold kid
   rw [show((2:Int)+(j:Int)-2).toNat=j from by omega,e3]
   rw [evalD_step ht.ns om hr]
   unfold kid
   dsimp only
   split
   ·exact ih _ _ om r2.1 r2.2 (exR_take e2)
   ·exact ih _ _ om r1.1 r1.2 (exR_take e1)
theorem ExOk.lv {o:List Int} {ns:List DN} {rs:List Int} {os:List DN} (h:ExOk ns rs os) {r x:Int} (e:exR rs r=some x):lvZ o os x=lvZ o ns r:=by
 by_cases h2:r<2
 ·unfold exR at e;rw [if_pos h2] at e;injection e with e;subst e
  unfold lvZ;rw [if_pos h2,if_pos h2]
 ·obtain⟨j,hj,er,rfl⟩:=h.find om e
  obtain⟨lo,hi,e1,e2,e3⟩:=h.node j hj
  unfold lvZ
  rw [if_neg om,if_neg h2,show((2:Int)+(j:Int)-2).toNat=j from by omega,e3,er]
theorem behind_lv {o:List Int} {os:List DN} {root x v:Int} (h:placeZ o v<lvZ o os x):behindB ⟨o,os,root⟩ x v=true:=by
 unfold behindB
 by_cases h2:x<2
 ·rw [decide_eq_true h2];rfl
 ·unfold lvZ at h
  rw [if_neg h2] at h
  rw [decide_eq_false h2,Bool.false_or]
  exact decide_eq_true h
theorem ExOk.ncode {o:List Int} {ns:List DN} {rs:List Int} {os:List DN} (ht:TabOk o ns) (h:ExOk ns rs os) (root:Int) {j:Nat} (hj:j<os.length):Go.PN.ncode ⟨o,os,root⟩ j=0:=by
 have hj':j<rs.length:=by rw [←h.len];exact hj
 obtain⟨lo,hi,e1,e2,e3⟩:=h.node j hj'
 have hb:=h.ref hj'
 have hi':(rs.getD j 0-2).toNat<ns.length:=by omega
 have nd:=ht _ hi'
 have nk:=h.nsok ht j hj
 rw [e3] at nk
 obtain⟨v0,v1,l0,l1,g0,g1⟩:=nk
 dsimp only at v0 v1 l0 l1 g0 g1
 unfold Go.PN.ncode
 rw [show(⟨o,os,root⟩:DG).nodes=os from rfl,e3]
 rw [if_neg (by unfold nrange;dsimp only;omega),if_neg ?_,if_neg ?_,if_neg ?_]
 ·intro hm
  obtain⟨k,hk,hkl,ek⟩:=take_memN.1 hm
  have hk':k<rs.length:=by omega
  obtain⟨lo',hi'',f1,f2,f3⟩:=h.node k hk'
  rw [f3] at ek
  injection ek with ev el eh
  subst el eh
  have q1:=exR_inj (exR_take f1) (exR_take e1)
  have q2:=exR_inj (exR_take f2) (exR_take e2)
  have hkb:=h.ref hk'
  have same:ns.getD (rs.getD k 0-2).toNat dn0=ns.getD (rs.getD j 0-2).toNat dn0:=by
   cases hA:ns.getD (rs.getD k 0-2).toNat dn0
   cases hB:ns.getD (rs.getD j 0-2).toNat dn0
   rw [hA,hB] at q1 q2 ev
   dsimp only at q1 q2 ev
   rw [q1,q2,ev]
  have hne:rs.getD k 0≠rs.getD j 0:=fun e=>by
   have p1:=place_get h.nd hk'
   have p2:=place_get h.nd hj'
   rw [e] at p1
   omega
  have hik:(rs.getD k 0-2).toNat<ns.length:=by omega
  rcases Nat.lt_or_gt_of_ne (show(rs.getD k 0-2).toNat≠(rs.getD j 0-2).toNat from fun e=>hne om) with hl|hl
  ·refine nd.new ?_
   rw [←same]
   exact take_memN.2 ⟨_,hl,hik,rfl⟩
  ·refine(ht _ hik).new ?_
   rw [same]
   exact take_memN.2 ⟨_,hl,hi',rfl⟩
 ·have b1:=nd.bl
  have b2:=nd.bh
  dsimp only
  rw [behind_lv (by rw [h.lv (exR_take e1)];exact b1),behind_lv (by rw [h.lv (exR_take e2)];exact b2)]
  simp
 ·dsimp only
  intro e
  subst e
  exact nd.ne (exR_inj (exR_take e1) (exR_take e2))
structure Ex (o:List Int) (ns:List DN) (rs:List Int) (os:List DN) (rs':List Int) (os':List DN) (r x:Int):Prop where
 ok:ExOk ns rs' os'
 pre:∃zs,rs'=rs++zs
 preo:∃ys,os'=os++ys
 ref:exR rs' r=some x
 num:∀ys,∀k,x.toNat≤k→numF (os'++ys) k x (numsL rs.length)=numsL rs'.length
 below:∀z∈rs',z∈rs∨z≤r
 len:rs'.length≤rs.length+(2^(o.length-lvZ o ns r).toNat-1)
theorem mem_numsL {n:Nat} {x:Int}:x∈numsL n↔2≤x∧x<n+2:=by
 unfold numsL
 rw [List.mem_map]
 constructor
 ·rintro ⟨i,hi,rfl⟩
  rw [List.mem_range] at hi
  omega
 ·intro h
  exact⟨(x-2).toNat,List.mem_range.2 om,by omega⟩
theorem numsL_succ' (n:Nat):numsL (n+1)=numsL n++[(n:Int)+2]:=by simp [numsL,List.range_succ]
theorem ex_same {o:List Int} {ns:List DN} {rs:List Int} {os:List DN} {r x:Int} (h:ExOk ns rs os) (h0:0≤r) (e:exR rs r=some x):Ex o ns rs os rs os r x:=
 ⟨h,⟨[],by simp⟩,⟨[],by simp⟩,e,fun ys k _=>by
  have hx:=exR_lt h0 e
  cases k with
  |zero=>rfl
  |succ k=>rw [numF,if_pos];rw [mem_numsL];omega,fun z hz=>.inl hz,by omega⟩
theorem ex_node {o:List Int} {ns:List DN} {rs rs1 rs2:List Int} {os os1 os2:List DN} {r xl xh:Int} (ht:TabOk o ns) (h2:2≤r) (hr:r<ns.length+2) (hnew:r∉rs)
  (a:Ex o ns rs os rs1 os1 (ns.getD (r-2).toNat dn0).lo xl) (b:Ex o ns rs1 os1 rs2 os2 (ns.getD (r-2).toNat dn0).hi xh):
  r∉rs2∧Ex o ns rs os (rs2++[r]) (os2++[⟨(ns.getD (r-2).toNat dn0).v,xl,xh⟩]) r ((rs2.length:Int)+2):=by
 have hi':(r-2).toNat<ns.length:=by omega
 have nk:=(ht _ hi').nk
 obtain⟨v0,v1,l0,l1,g0,g1⟩:=nk
 obtain⟨z1,e1⟩:=a.pre
 obtain⟨z2,e2⟩:=b.pre
 obtain⟨y1,f1⟩:=a.preo
 obtain⟨y2,f2⟩:=b.preo
 have hout:r∉rs2:=fun hm=>by
  rcases b.below r hm with hm|hm
  ·rcases a.below r hm with hm|hm
   ·exact hnew hm
   ·omega
  ·omega
 have hax:exR rs2 (ns.getD (r-2).toNat dn0).lo=some xl:=by rw [e2];exact exR_app a.ref
 have hxl:=exR_lt l0 hax
 have hxh:=exR_lt g0 b.ref
 have hlen2:=b.ok.len
 refine⟨hout,⟨⟨by simp [hlen2],?_,fun z hz=> ?_,fun j hj=> ?_⟩,⟨z1++z2++[r],by rw [e2,e1];simp⟩,⟨y1++y2++[⟨(ns.getD (r-2).toNat dn0).v,xl,xh⟩],by rw [f2,f1];simp only [List.append_assoc]⟩,?_,fun ys k hk=> ?_,fun z hz=> ?_,?_⟩⟩
 ·exact List.nodup_append.2 ⟨b.ok.nd,by simp,fun a ha c hc=>by
   rw [List.mem_singleton] at hc;subst hc;exact fun e=>hout (e▸ha)⟩
 ·rcases List.mem_append.1 hz with hz|hz
  ·exact b.ok.bd z hz
  ·rw [List.mem_singleton] at hz;subst hz;exact⟨h2,hr⟩
 ·rw [List.length_append,List.length_singleton] at hj
  by_cases hjl:j<rs2.length
  ·obtain⟨lo,hi,q1,q2,q3⟩:=b.ok.node j hjl
   have e:(rs2++[r]).getD j 0=rs2.getD j 0:=by
    rw [List.getD_eq_getElem?_getD,List.getD_eq_getElem?_getD,List.getElem?_append_left hjl]
   rw [e,List.take_append_of_le_length om]
   exact⟨lo,hi,q1,q2,by rw [getD_app om];exact q3⟩
  ·have hj':j=rs2.length:=by omega
   subst hj'
   have e:(rs2++[r]).getD rs2.length 0=r:=by
    rw [List.getD_eq_getElem?_getD,List.getElem?_append_right (Nat.le_refl _),Nat.sub_self];rfl
   rw [e,List.take_append_of_le_length (Nat.le_refl _),List.take_length]
   refine⟨xl,xh,hax,b.ref,?_⟩
   rw [←hlen2,List.getD_eq_getElem?_getD,List.getElem?_append_right (Nat.le_refl _),Nat.sub_self];rfl
 ·unfold exR
  rw [if_neg om,if_pos (by simp),List.idxOf_append,if_neg hout]
  simp
 ·obtain⟨k',rfl⟩:∃k',k=k'+1:=⟨k-1,by omega⟩
  have hlen:(rs2++[r]).length=rs2.length+1:=by simp
  have hg:((os2++[(⟨(ns.getD (r-2).toNat dn0).v,xl,xh⟩:DN)])++ys).getD ((rs2.length:Int)+2-2).toNat dn0=⟨(ns.getD (r-2).toNat dn0).v,xl,xh⟩:=by
   rw [show((rs2.length:Int)+2-2).toNat=os2.length from by omega,List.append_assoc,List.getD_eq_getElem?_getD,List.getElem?_append_right (Nat.le_refl _),Nat.sub_self];rfl
  have hle:rs.length≤rs2.length:=by rw [e2,e1];simp only [List.length_append];omega
  rw [numF,if_neg (by rw [mem_numsL];omega),hg]
  dsimp only
  have a1:=a.num (y2++[(⟨(ns.getD (r-2).toNat dn0).v,xl,xh⟩:DN)]++ys) k' om
  have b1:=b.num ([(⟨(ns.getD (r-2).toNat dn0).v,xl,xh⟩:DN)]++ys) k' om
  have ea:os1++(y2++[(⟨(ns.getD (r-2).toNat dn0).v,xl,xh⟩:DN)]++ys)=os2++[(⟨(ns.getD (r-2).toNat dn0).v,xl,xh⟩:DN)]++ys:=by rw [f2];simp
  rw [ea] at a1
  rw [←List.append_assoc] at b1
  rw [a1,b1,hlen,numsL_succ']
 ·rcases List.mem_append.1 hz with hz|hz
  ·rcases b.below z hz with h|h
   ·rcases a.below z h with h|h
    ·exact .inl h
    ·exact .inr om
   ·exact .inr om
  ·rw [List.mem_singleton] at hz;exact .inr om
 ·have nd:=ht _ hi'
  have b1:=nd.bl
  have b2:=nd.bh
  have hlr:lvZ o ns r=placeZ o (ns.getD (r-2).toNat dn0).v:=by unfold lvZ;rw [if_neg om]
  have ll:=lv_le (o:=o) (ns:=ns) (r:=(ns.getD (r-2).toNat dn0).lo)
  have lh:=lv_le (o:=o) (ns:=ns) (r:=(ns.getD (r-2).toNat dn0).hi)
  have la:=a.len
  have lb:=b.len
  obtain⟨q,hq⟩:∃q,(o.length-lvZ o ns r).toNat=q+1:=⟨(o.length-lvZ o ns r).toNat-1,by omega⟩
  have pa:2^((o.length:Int)-lvZ o ns (ns.getD (r-2).toNat dn0).lo).toNat≤2^q:=Nat.pow_le_pow_right om om
  have pb:2^((o.length:Int)-lvZ o ns (ns.getD (r-2).toNat dn0).hi).toNat≤2^q:=Nat.pow_le_pow_right om om
  have pq:0<2^q:=Nat.pow_pos om
  rw [hq,Nat.pow_succ,List.length_append,List.length_singleton]
  omega
theorem ex_code {o:List Int} {ns:List DN} {rs:List Int} {os:List DN} {r x:Int} (ho:ocode o o.length=0) (ht:TabOk o ns) (hr:RefOk ns r) (h:Ex o ns [] [] rs os r x) (hl:os.length≤4096):dcode ⟨o,os,x⟩=0:=by
 have hx:=exR_lt hr.1 h.ref
 have hlen:=h.ok.len
 unfold dcode
 have hz:∀(k i:Nat),i+k≤os.length→nfirst ⟨o,os,x⟩ i k=0:=by
  intro k
  induction k with
  |zero=>intro i _;rfl
  |succ k ih=>
   intro i hi
   rw [nfirst,if_neg (by rw [h.ok.ncode ht x om];simp)]
   exact ih (i+1) om
 rw [if_neg (by simpa using ho),if_neg (by simpa using hl),if_neg (by rw [hz _ _ (by simp)];simp),if_neg (by dsimp only;omega)]
 have hn:=h.num [] x.toNat (Nat.le_refl _)
 rw [List.append_nil] at hn
 rw [if_pos]
 show numF os x.toNat x []=numsL os.length
 rw [hlen,←hn]
 rfl
end Go.PN
namespace Go.Proofs.YtefekdejgbceiaaGreat
open Go.AI Go.PN
attribute [local irreducible] aw Fa Fh DrK
theorem ref0 {ns:List DN}:RefOk ns 0:=⟨by omega,by omega⟩
theorem ref1 {ns:List DN}:RefOk ns 1:=⟨by omega,by omega⟩
theorem ev0 {ns:List DN} {s:Nat}:evalD ns s 0=false:=by rw [evalD_leaf om];rfl
theorem ev1 {ns:List DN} {s:Nat}:evalD ns s 1=true:=by rw [evalD_leaf om];rfl
theorem tnot_fh (gT gU gM:Nat) {o pl:List Int} (ho:OdOk o pl) {og:Option Nat} {ns:List DN} {mm:Mem3} (hs:TS o og ns mm) (hn:ns.length+2^(o.length+1)≤1000000000) {a:Int} (ha:RefOk ns a):
  Fh Tryz.prog 72 (THp gT gU gM og o pl ns mm) [.c (.optr gT 0),.c (.int .i64 a)] (OpQ gT gU gM o pl ns (2^(o.length+1)-1) fun s=> !evalD ns s a):=by
 refine fh_of_body Tryz.func72 rfl rfl (by simp [Tryz.ntmps72]) fun C hC=> ?_
 simp only [initS,Nat.reduceAdd]
 refine xG ?_
 refine aw_callh (hr:=[]) (choose_fh gT gU gM ho hs hn ha ref0 ref1) rfl rfl rfl (by rw [List.append_nil]) eL ?_
 rintro _ _ ⟨og',ns',mm',r,e1,e2,e3,e4,rfl,rfl⟩ _
 rw [List.append_nil]
 refine xSGU ?_
 exact⟨og',ns',mm',r,e1,e2,e3,fun s=>by rw [e4];dsimp only;rw [ev0,ev1];cases evalD ns s a<;>rfl,rfl,rfl⟩
theorem tand_fh (gT gU gM:Nat) {o pl:List Int} (ho:OdOk o pl) {og:Option Nat} {ns:List DN} {mm:Mem3} (hs:TS o og ns mm) (hn:ns.length+2^(o.length+1)≤1000000000) {a b:Int} (ha:RefOk ns a) (hb:RefOk ns b):
  Fh Tryz.prog 61 (THp gT gU gM og o pl ns mm) [.c (.optr gT 0),.c (.int .i64 a),.c (.int .i64 b)] (OpQ gT gU gM o pl ns (2^(o.length+1)-1) fun s=>evalD ns s a&&evalD ns s b):=by
 refine fh_of_body Tryz.func61 rfl rfl (by simp [Tryz.ntmps61]) fun C hC=> ?_
 simp only [initS,Nat.reduceAdd]
 refine xG ?_
 refine aw_callh (hr:=[]) (choose_fh gT gU gM ho hs hn ha hb ref0) rfl rfl rfl (by rw [List.append_nil]) eL ?_
 rintro _ _ ⟨og',ns',mm',r,e1,e2,e3,e4,rfl,rfl⟩ _
 rw [List.append_nil]
 refine xSGU ?_
 exact⟨og',ns',mm',r,e1,e2,e3,fun s=>by rw [e4];dsimp only;rw [ev0];cases evalD ns s a<;>rfl,rfl,rfl⟩
theorem tor_fh (gT gU gM:Nat) {o pl:List Int} (ho:OdOk o pl) {og:Option Nat} {ns:List DN} {mm:Mem3} (hs:TS o og ns mm) (hn:ns.length+2^(o.length+1)≤1000000000) {a b:Int} (ha:RefOk ns a) (hb:RefOk ns b):
  Fh Tryz.prog 62 (THp gT gU gM og o pl ns mm) [.c (.optr gT 0),.c (.int .i64 a),.c (.int .i64 b)] (OpQ gT gU gM o pl ns (2^(o.length+1)-1) fun s=>evalD ns s a||evalD ns s b):=by
 refine fh_of_body Tryz.func62 rfl rfl (by simp [Tryz.ntmps62]) fun C hC=> ?_
 simp only [initS,Nat.reduceAdd]
 refine xG ?_
 refine aw_callh (hr:=[]) (choose_fh gT gU gM ho hs hn ha ref1 hb) rfl rfl rfl (by rw [List.append_nil]) eL ?_
 rintro _ _ ⟨og',ns',mm',r,e1,e2,e3,e4,rfl,rfl⟩ _
 rw [List.append_nil]
 refine xSGU ?_
 exact⟨og',ns',mm',r,e1,e2,e3,fun s=>by rw [e4];dsimp only;rw [ev1];cases evalD ns s a<;>rfl,rfl,rfl⟩
theorem txor_fh (gT gU gM:Nat) {o pl:List Int} (ho:OdOk o pl) {og:Option Nat} {ns:List DN} {mm:Mem3} (hs:TS o og ns mm) (hn:ns.length+2^(o.length+1)+2^(o.length+1)≤1000000000) {a b:Int} (ha:RefOk ns a) (hb:RefOk ns b):
  Fh Tryz.prog 74 (THp gT gU gM og o pl ns mm) [.c (.optr gT 0),.c (.int .i64 a),.c (.int .i64 b)] (OpQ gT gU gM o pl ns (2^(o.length+1)+2^(o.length+1)) fun s=>evalD ns s a !=evalD ns s b):=by
 have hB:0<2^(o.length+1):=Nat.pow_pos om
 refine fh_of_body Tryz.func74 rfl rfl (by simp [Tryz.ntmps74]) fun C hC=> ?_
 simp only [initS,Nat.reduceAdd]
 refine xG ?_
 refine aw_callh (hr:=[]) (tnot_fh gT gU gM ho hs om hb) rfl rfl rfl (by rw [List.append_nil]) eL ?_
 rintro _ _ ⟨og1,ns1,mm1,r1,e1,e2,e3,e4,rfl,rfl⟩ _
 rw [List.append_nil]
 have hl:=e2.len
 refine xSG ?_
 refine aw_callh (hr:=[]) (choose_fh gT gU gM ho e1 om (e2.ref ha) e3 (e2.ref hb)) rfl rfl rfl (by rw [List.append_nil]) eL ?_
 rintro _ _ ⟨og',ns',mm',r,f1,f2,f3,f4,rfl,rfl⟩ _
 rw [List.append_nil]
 refine xSGU ?_
 exact⟨og',ns',mm',r,f1,e2.trans f2 om,f3,fun s=>by rw [f4];dsimp only;rw [e4];dsimp only;rw [e2.eval hs.tab ha,e2.eval hs.tab hb];cases evalD ns s a<;>cases evalD ns s b<;>rfl,rfl,rfl⟩
theorem tevent_fh (gT gU gM:Nat) {o pl:List Int} {og:Option Nat} {ns:List DN} {mm:Mem3} (hs:TS o og ns mm) (hn:ns.length≤1000000000) {v:Int} (v0:0≤v) (v1:v<o.length):
  Fh Tryz.prog 31 (THp gT gU gM og o pl ns mm) [.c (.optr gT 0),.c (.int .i64 v)] (OpQ gT gU gM o pl ns 1 fun s=>s.testBit v.toNat):=by
 refine(event_fh gT gU gM og o pl ns mm v hs.og hn).mono ?_
 rintro x h ⟨og',h1,h2,h3⟩
 have hlv:∀r:Int,r<2→placeZ o v<lvZ o ns r:=fun r hr=>by
  unfold lvZ;rw [if_pos hr];exact place_lt
 obtain⟨m1,m2,m3,m4⟩:=mk_ok hs.tab v0 v1 ref0 ref1 (hlv 0 om) (hlv 1 om)
 refine⟨og',_,_,_,⟨h1,m1.tab,hs.mem.later m1 hs.tab⟩,m1,m2,fun s=> ?_,h2,h3⟩
 rw [m4,ev0,ev1]
 dsimp only
 cases s.testBit v.toNat<;>rfl
end Go.Proofs.YtefekdejgbceiaaGreat
namespace Go.Proofs.YtefekdejgbceiaaGreat
open Go.AI Go.PN
attribute [local irreducible] aw Fa Fh DrK
@[go_sem] theorem ty_fii_s:tSz Tryz.prog 66=some (false,1):=by kernel_rfl
@[go_sem] theorem ty_fii_z:tZero Tryz.prog 66=some [.raw .nilFunc]:=by kernel_rfl
theorem ty_ki:KeyOk Tryz.prog 3 keyI:=keyI_ok Tryz.underlying3
theorem keyI_rep {r:Int}:∀(S:Bool→Nat→Prop) (w:World) (u:Value),Rep S w (.c (.int .i64 r)) u→u=keyI r:=fun _ _ _ h=>h
abbrev W6 (g1 g2 g3 g4 g5 gd gT:Nat) (e:Nat) (y:Int) (dl:List (Int×Int)):Heap:=
 [(g1,.cells 64 1 (ofL [.optr gT 0])),(g2,.cells 3 1 (ofL [.int .i64 e])),(g3,.cells 120 1 (ofL [.raw (.map (some gd))])),(g4,.cells 3 1 (ofL [.int .i64 y])),(g5,.cells 66 1 (ofL [fnC 207 [g1,g2,g3,g4,g5]])),(gd,.gen (MapI keyI (dnL dl)))]
abbrev HW (g1 g2 g3 g4 g5 gd gT gU gM:Nat) (og:Option Nat) (o pl:List Int) (ns:List DN) (mm:Mem3) (e:Nat) (y:Int) (dl:List (Int×Int)):Heap:=W6 g1 g2 g3 g4 g5 gd gT e y dl++THp gT gU gM og o pl ns mm
def roomN (o:List Int) (ns:List DN) (r:Int):Nat:=2^((o.length:Int)-lvZ o ns r).toNat*2^(o.length+1)
theorem room_ge {o:List Int} {ns:List DN} {r:Int}:2^(o.length+1)≤roomN o ns r:=Nat.le_mul_of_pos_left _ (Nat.pow_pos om)
theorem room_le {o:List Int} {ns:List DN} {r:Int} (h:0≤lvZ o ns r):roomN o ns r≤2^o.length*2^(o.length+1):=Nat.mul_le_mul_right _ (Nat.pow_le_pow_right om om)
theorem room_node {o:List Int} {ns:List DN} (ht:TabOk o ns) {r:Int} (h2:2≤r) (hr:r<ns.length+2):roomN o ns (ns.getD (r-2).toNat dn0).lo+roomN o ns (ns.getD (r-2).toNat dn0).hi≤roomN o ns r:=by
 have nd:=ht (r-2).toNat om
 have b1:=nd.bl
 have b2:=nd.bh
 have hlr:lvZ o ns r=placeZ o (ns.getD (r-2).toNat dn0).v:=by unfold lvZ;rw [if_neg om]
 have ll:=lv_le (o:=o) (ns:=ns) (r:=(ns.getD (r-2).toNat dn0).lo)
 have lh:=lv_le (o:=o) (ns:=ns) (r:=(ns.getD (r-2).toNat dn0).hi)
 unfold roomN
 rw [←Nat.add_mul]
 refine Nat.mul_le_mul_right _ ?_
 obtain⟨q,hq⟩:∃q,((o.length:Int)-lvZ o ns r).toNat=q+1:=⟨((o.length:Int)-lvZ o ns r).toNat-1,by omega⟩
 have pa:2^((o.length:Int)-lvZ o ns (ns.getD (r-2).toNat dn0).lo).toNat≤2^q:=Nat.pow_le_pow_right om om
 have pb:2^((o.length:Int)-lvZ o ns (ns.getD (r-2).toNat dn0).hi).toNat≤2^q:=Nat.pow_le_pow_right om om
 rw [hq,Nat.pow_succ]
 omega
def WkQ (g1 g2 g3 g4 g5 gd gT gU gM:Nat) (o pl:List Int) (ns0:List DN) (e:Nat) (y:Int) (ns:List DN) (dl:List (Int×Int)) (r:Int) (x:AV) (h:Heap):Prop:=
 ∃og' ns' mm' dl' x',TS o og' ns' mm'∧CmOk o ns0 e y ns' mm' dl'∧Later o ns ns' ns'.length∧CmR ns0 e y ns' r x'∧ns'.length+2^(o.length+1)≤ns.length+roomN o ns0 r∧(∃zs,dl'=dl++zs)∧(∀z∈dl',z∈dl∨z.1≤r)∧x=.c (.int .i64 x')∧h=HW g1 g2 g3 g4 g5 gd gT gU gM og' o pl ns' mm' e y dl'
theorem perm_rot2 {α:Type} (a:α) (l k:List α):(l++(k++[a])).Perm (k++(a::l)):=by
 have:=List.perm_append_comm (l₁:=l) (l₂:=k++[a])
 rwa [List.append_assoc k,List.singleton_append] at this
theorem perm_rot {α:Type} (a:α) (l k:List α):(k++(a::l)).Perm ((l++k)++[a]):=List.perm_append_comm.trans (List.perm_append_singleton a (l++k)).symm
theorem walk_fh (g1 g2 g3 g4 g5 gd gT gU gM:Nat) {o pl:List Int} (ho:OdOk o pl) {ns0:List DN} (ht0:TabOk o ns0) {e:Nat} (he:e<o.length) {y:Int} (hy:RefOk ns0 y):∀(k:Nat) (r:Int) (og:Option Nat) (ns:List DN) (mm:Mem3) (dl:List (Int×Int)),r.toNat<k→RefOk ns0 r→TS o og ns mm→CmOk o ns0 e y ns mm dl→ns.length+roomN o ns0 r≤1000000000→
  Fh Tryz.prog 207 (HW g1 g2 g3 g4 g5 gd gT gU gM og o pl ns mm e y dl) ([.c (.int .i64 r)]++[g1,g2,g3,g4,g5].map fun g=>.c (.optr g 0)) (WkQ g1 g2 g3 g4 g5 gd gT gU gM o pl ns0 e y ns dl r):=by
 intro k
 induction k with
 |zero=>intro r og ns mm dl hk;omega
 |succ k ih=>
  intro r og ns mm dl hk hr hs hc hn
  have hB:0<2^(o.length+1):=Nat.pow_pos om
  have hlat:=hc.lat
  have hge:=room_ge (o:=o) (ns:=ns0) (r:=r)
  have l24:=ho.l24
  have hrn:RefOk ns r:=hlat.ref hr
  have hpe:=ho.pl.2 e he
  have hplen:=ho.pl.1
  simp only [List.cons_append,List.nil_append,List.map_cons,List.map_nil]
  refine fh_of_body Tryz.func207 rfl rfl (by simp [Tryz.ntmps207]) fun C hC=> ?_
  simp only [initS,Nat.reduceAdd]
  simp only [HW,W6,THp,TH,List.cons_append,List.nil_append]
  refine aw_nd fun hnd=> ?_
  simp only [Heap.keys,List.map_cons] at hnd
  replace hnd:=ndP_of hnd
  dsimp only [ndP,neA] at hnd
  have J1:=oj hnd hpe
  refine yG J1 ?_
  refine aw_cw ([(g1,.cells 64 1 (ofL [.optr gT 0])),(g2,.cells 3 1 (ofL [.int .i64 e])),(gT,.cells 112 5 (ofL [is true o,is true pl,gs og 3 ns.length,.raw (.map (some gU)),.raw (.map (some gM))]))]) [(0,0),(1,0),(3,0),(4,0),(5,0),(6,0),(7,0),(8,0),(9,0),(2,1),(10,0)] ty_mixed (by kernel_rfl) eI ?_
  refine yG J1 ?_
  refine cw_callh (hc:=THp gT gU gM og o pl ns mm) (hr:=W6 g1 g2 g3 g4 g5 gd gT e y dl) rfl (level_fh gT gU gM og o pl ns mm r hs.og om hs.tab hrn ho.pl om) rfl rfl rfl (List.perm_append_comm (l₁:=W6 g1 g2 g3 g4 g5 gd gT e y dl)) (zL J1) (by rintro _ _ ⟨rfl,rfl⟩;unfold THp TH;exact eI) ?_ (hm:=.inr ⟨rfl,rfl⟩)
  rintro _ _ ⟨rfl,rfl⟩ _
  rw [hlat.lv hr]
  refine cw_perm List.perm_append_comm ?_
  unfold W6 THp TH
  simp only [List.cons_append,List.nil_append]
  refine ySG J1 ?_
  by_cases hlv:placeZ o e<lvZ o ns0 r
  ·have hlv':decide (lvZ o ns0 r>placeZ o e)=true:=decide_eq_true hlv
   have J2:=oj hnd (oj hpe hlv')
   refine yP J2 ?_
   refine yG J2 ?_
   refine yU J2 ?_
   exact⟨og,ns,mm,dl,r,hs,hc,Later.refl hs.tab _,cm_same ht0 hlat hr hlv,by omega,⟨[],by simp⟩,fun z hz=>.inl hz,rfl,rfl⟩
  have hlv':decide (lvZ o ns0 r>placeZ o e)=false:=decide_eq_false hlv
  have J3:=oj hnd (oj hpe hlv')
  refine yN J3 ?_
  refine yG J3 ?_
  have h2:2≤r:=by
   refine Classical.byContradiction fun hc=> ?_
   unfold lvZ at hlv
   rw [if_pos om] at hlv
   exact hlv place_lt
  refine aw_lookup2 (a:=r) (kv:=dnL dl) (Kf:=keyI) (kt:=3) (et:=3) rfl rfl rfl (by kernel_rfl) ty_ki ty_iz (zE J3) (zE J3) (zE J3) keyI_rep ?_
  refine yS J3 ?_
  rw [dn_get]
  cases hf:dnGet r dl with
  |some x=>
   try simp only [Option.map_some,Option.getD_some,Option.isSome_some,cstC]
   refine yGPGU J3 ?_
   exact⟨og,ns,mm,dl,x,hs,hc,Later.refl hs.tab _,hc.sem _ (dn_mem hf),by omega,⟨[],by simp⟩,fun z hz=>.inl hz,rfl,rfl⟩
  |none=>
   try simp only [Option.map_none,Option.getD_none,Option.isSome_none,cstC]
   refine yG J3 ?_
   refine yN J3 ?_
   obtain⟨g,rfl⟩:∃g,og=some g:=by
    cases og with
    |none=>have:=hs.og rfl;unfold RefOk at hrn;omega
    |some g=>exact⟨g,rfl⟩
   simp only [gh,List.map_cons,List.map_nil,neA,ndP] at hnd
   simp only [gs,gh]
   have hi0:(r-2).toNat<ns0.length:=by unfold RefOk at hr;omega
   have hi1:(r-2).toNat<ns.length:=by unfold RefOk at hrn;omega
   have hgn:ns.getD (r-2).toNat dn0=ns0.getD (r-2).toNat dn0:=by
    obtain⟨xs,hx⟩:=hlat.pre
    rw [hx,getD_app hi0]
   obtain⟨w0,w1,w2,w3,w4,w5⟩:=(ht0 _ hi0).nk
   obtain⟨kl,kh⟩:=kids_ref ht0 hi0
   have hroom:=room_node ht0 h2 hr.2
   have hgl:=room_ge (o:=o) (ns:=ns0) (r:=(ns0.getD (r-2).toNat dn0).lo)
   have hgh:=room_ge (o:=o) (ns:=ns0) (r:=(ns0.getD (r-2).toNat dn0).hi)
   refine yG (oj hnd (oj hpe hlv')) ?_
   refine yA (oj hnd (oj hpe hlv')) fun g10 hn_g10=>?_
   clear hn_g10
   refine aw_nd fun hnd2=> ?_
   simp only [Heap.keys,List.map_cons,List.map_nil] at hnd2
   replace hnd2:=ndP_of hnd2
   dsimp only [ndP,neA] at hnd2
   clear hnd
   refine yGWS hnd2 ?_
   rw [hgn]
   generalize hx0:ns0.getD (r-2).toNat dn0=nd at*
   refine yG hnd2 ?_
   have hnew:=dn_none hf
   have hr2:r<ns0.length+2:=hr.2
   refine aw_cut (fun(p:Option Nat×List DN×Mem3×List (Int×Int)×Int)=>[(0,.c (.int .i64 r)),(3,.c (.optr g3 0)),(11,.c (.int .i64 p.2.2.2.2))]) (fun p=>W6 g1 g2 g3 g4 g5 gd gT e y p.2.2.2.1++THp gT gU gM p.1 o pl p.2.1 p.2.2.1)
    (fun p=>TS o p.1 p.2.1 p.2.2.1∧CmOk o ns0 e y p.2.1 p.2.2.1 p.2.2.2.1∧Later o ns p.2.1 p.2.1.length∧CmR ns0 e y p.2.1 r p.2.2.2.2∧p.2.1.length+2^(o.length+1)≤ns.length+roomN o ns0 r∧(∃zs,p.2.2.2.1=dl++zs)∧(∀z∈p.2.2.2.1,z∈dl∨z.1<r)) ?_ ?_
   ·refine yG hnd2 ?_
    refine yF hnd2 (fun hv=>?_) fun hv=>?_
    ·have hv':nd.v=e:=by simpa using hv
     refine yG hnd2 ?_
     refine aw_callh (hc:=THp gT gU gM (some g) o pl ns mm) (hr:=(g10,.cells 119 3 (ofL [.int .i64 nd.v,.int .i64 nd.lo,.int .i64 nd.hi]))::W6 g1 g2 g3 g4 g5 gd gT e y dl) (choose_fh gT gU gM ho hs om (hlat.ref hy) (hlat.ref kh) (hlat.ref kl)) rfl rfl rfl (List.perm_append_comm (l₁:=(g10,.cells 119 3 (ofL [.int .i64 nd.v,.int .i64 nd.lo,.int .i64 nd.hi]))::W6 g1 g2 g3 g4 g5 gd gT e y dl)) (zL hnd2) ?_
     rintro _ _ ⟨og4,ns4,mm4,x,e1,e2,e3,e4,rfl,rfl⟩ _
     refine aw_perm List.perm_append_comm ?_
     refine ySG hnd2 ?_
     have hl4:=e2.len
     refine aw_stop ⟨(og4,ns4,mm4,dl,x),(zB hnd2),List.Sublist.cons _ (List.Sublist.refl _),e1,hc.later e2 e1.mem,e2.loose,?_,by dsimp only;omega,⟨[],by simp⟩,fun z hz=>.inl hz⟩
     exact cm_here ht0 hlat e2 h2 hr hy (by rw [hx0];exact hv') e3 (by rw [hx0];exact e4)
    ·have hv':¬nd.v=e:=by simpa using hv
     refine yG hnd2 ?_
     refine aw_cw ([(g1,.cells 64 1 (ofL [.optr gT 0])),(g5,.cells 66 1 (ofL [fnC 207 [g1,g2,g3,g4,g5]])),(g10,.cells 119 3 (ofL [.int .i64 nd.v,.int .i64 nd.lo,.int .i64 nd.hi]))]) [(0,0),(1,0),(2,0),(3,0),(5,0),(6,0),(7,0),(9,0),(10,0),(11,0),(4,1),(8,1),(12,1),(13,1),(14,0)] ty_mixed (by kernel_rfl) eI ?_
     refine yG hnd2 ?_
     refine cw_callh (hc:=THp gT gU gM (some g) o pl ns mm) (hr:=(g10,.cells 119 3 (ofL [.int .i64 nd.v,.int .i64 nd.lo,.int .i64 nd.hi]))::W6 g1 g2 g3 g4 g5 gd gT e y dl) rfl (tevent_fh gT gU gM hs om w0 w1) rfl rfl rfl (List.perm_append_comm (l₁:=(g10,.cells 119 3 (ofL [.int .i64 nd.v,.int .i64 nd.lo,.int .i64 nd.hi]))::W6 g1 g2 g3 g4 g5 gd gT e y dl)) (zL hnd2) (by
      rintro _ _ ⟨_,_,_,_,_,_,_,_,rfl,rfl⟩;unfold W6;exact has0_app2 eI) ?_ (hm:=.inr ⟨rfl,rfl⟩)
     rintro _ _ ⟨og1,ns1,mm1,c1,e1,e2,e3,e4,rfl,rfl⟩ _
     have hl1:=e2.len
     refine ySG hnd2 ?_
     refine cw_callhv (gs:=[g1,g2,g3,g4,g5]) (hr:=[(g10,.cells 119 3 (ofL [.int .i64 nd.v,.int .i64 nd.lo,.int .i64 nd.hi]))]) rfl (ih nd.hi og1 ns1 mm1 dl om kh e1 (hc.later e2 e1.mem) om) rfl rfl rfl (zE hnd2) (perm_rot _ _ _) (zL hnd2) (by
      rintro _ _ ⟨_,_,_,_,_,_,_,_,_,_,_,_,rfl,rfl⟩;unfold HW W6;simp only [List.append_assoc,List.cons_append,List.nil_append];exact eI) ?_ (hm:=.inr ⟨rfl,rfl⟩)
     rintro _ _ ⟨og2,ns2,mm2,dl2,x2,s2,k2,l2,r2,b2,⟨z2,q2⟩,n2,rfl,rfl⟩ _
     refine ySG hnd2 ?_
     refine cw_callhv (gs:=[g1,g2,g3,g4,g5]) (hr:=[(g10,.cells 119 3 (ofL [.int .i64 nd.v,.int .i64 nd.lo,.int .i64 nd.hi]))]) rfl (ih nd.lo og2 ns2 mm2 dl2 om kl s2 k2 om) rfl rfl rfl (zE hnd2) (.refl _) (zL hnd2) (by
      rintro _ _ ⟨_,_,_,_,_,_,_,_,_,_,_,_,rfl,rfl⟩;unfold HW W6;simp only [List.append_assoc,List.cons_append,List.nil_append];exact eI) ?_ (hm:=.inr ⟨rfl,rfl⟩)
     rintro _ _ ⟨og3,ns3,mm3,dl3,x3,s3,k3,l3,r3,b3,⟨z3,q3⟩,n3,rfl,rfl⟩ _
     have hbelow:∀z∈dl3,z∈dl∨z.1<r:=fun z hz=>by
      rcases n3 z hz with h|h
      ·rcases n2 z h with h|h
       ·exact .inl h
       ·exact .inr om
      ·exact .inr om
     have hnew3:∀z∈dl3,z.1≠r:=fun z hz=>by
      rcases hbelow z hz with h|h
      ·exact hnew z h
      ·omega
     refine ySG hnd2 ?_
     refine cw_callh (hc:=THp gT gU gM og3 o pl ns3 mm3) (hr:=(g10,.cells 119 3 (ofL [.int .i64 nd.v,.int .i64 nd.lo,.int .i64 nd.hi]))::W6 g1 g2 g3 g4 g5 gd gT e y dl3) rfl (choose_fh gT gU gM ho s3 om (l3.ref (l2.ref e3)) (r2.later k2.lat.tab l3).1 r3.1) rfl rfl rfl (perm_rot2 (g10,_) (W6 g1 g2 g3 g4 g5 gd gT e y dl3) (THp gT gU gM og3 o pl ns3 mm3)) (zL hnd2) (by
      rintro _ _ ⟨_,_,_,_,_,_,_,_,rfl,rfl⟩;unfold W6;exact has0_app2 eI) ?_ (hm:=.inr ⟨rfl,rfl⟩)
     rintro _ _ ⟨og4,ns4,mm4,x,f1,f2,f3,f4,rfl,rfl⟩ _
     have hl4:=f2.len
     refine cw_perm List.perm_append_comm ?_
     refine ySG hnd2 ?_
     refine aw_stop ⟨(og4,ns4,mm4,dl3,x),(zB hnd2),List.Sublist.cons _ (List.Sublist.refl _),f1,k3.later f2 f1.mem,(((e2.trans l2 (Nat.le_refl _)).trans l3 (Nat.le_refl _)).trans f2 (Nat.le_refl _)).loose,?_,by dsimp only;omega,⟨z2++z3,by rw [q3,q2,List.append_assoc]⟩,hbelow⟩
     refine cm_node (c:=c1) (a:=x2) (b:=x3) (ns:=ns3) ht0 h2 hr (by rw [hx0];exact hv') (fun s=> ?_) (by rw [hx0];exact r2.later k2.lat.tab l3) (by rw [hx0];exact r3) f3 f4
     rw [l3.eval k2.lat.tab (l2.ref e3),l2.eval e2.tab e3,e4,hx0]
   rintro ⟨og',ns',mm',dl',x⟩ ⟨s',k',l',r',b',⟨z',q'⟩,n'⟩
   dsimp only at s' k' l' r' b' q' n'⊢
   have hnew':∀z∈dl',z.1≠r:=fun z hz=>by
    rcases n' z hz with h|h
    ·exact hnew z h
    ·omega
   unfold W6
   simp only [List.cons_append,List.nil_append]
   refine yG hnd2 ?_
   refine aw_mapNew (a:=r) (kv:=dnL dl') (Kf:=keyI) (v:=.int .i64 x) rfl rfl rfl (kt:=3) (et:=3) (by kernel_rfl) ty_ki (zE hnd2) (zE hnd2) (zE hnd2) keyI_rep (cv:=.c (.int .i64 x)) (zE hnd2) (fun S w u h=>h) (by rw [dn_get,dn_none' hnew'];rfl) (zE hnd2) ?_
   rw [dnL_push]
   refine ySG hnd2 ?_
   refine yU hnd2 ?_
   refine⟨og',ns',mm',dl'++[(r,x)],x,s',k'.push h2 hr2 hnew' r',l',r',b',⟨z'++[(r,x)],by rw [q',List.append_assoc]⟩,fun z hz=> ?_,rfl,rfl⟩
   rcases List.mem_append.1 hz with hz|hz
   ·rcases n' z hz with h|h
    ·exact .inl h
    ·exact .inr om
   ·rw [List.mem_singleton] at hz;subst hz;exact .inr (Int.le_refl _)
theorem compose_fh (gT gU gM:Nat) {o pl:List Int} (ho:OdOk o pl) {ns0:List DN} (ht0:TabOk o ns0) {e:Nat} (he:e<o.length) {y:Int} (hy:RefOk ns0 y) {og:Option Nat} {mm:Mem3} (hs:TS o og ns0 mm) (hn:ns0.length+2^o.length*2^(o.length+1)≤1000000000) {r:Int} (hr:RefOk ns0 r):
  Fh Tryz.prog 197 (THp gT gU gM og o pl ns0 mm) [.c (.optr gT 0),.c (.int .i64 r),.c (.int .i64 e),.c (.int .i64 y)] (OpQ gT gU gM o pl ns0 (2^o.length*2^(o.length+1)) fun s=>evalD ns0 (setB s e (evalD ns0 s y)) r):=by
 refine fh_of_body Tryz.func197 rfl rfl (by simp [Tryz.ntmps197]) fun C hC=> ?_
 simp only [initS,Nat.reduceAdd]
 unfold THp TH
 simp only [List.cons_append,List.nil_append]
 refine xG ?_
 refine xB fun g4 hn_g4=>?_
 refine yG hn_g4 ?_
 refine yB hn_g4 fun g6 hn_g6=>?_
 refine yG (oj hn_g4 hn_g6) ?_
 refine yB (oj hn_g4 hn_g6) fun g7 hn_g7=>?_
 refine yG (oj hn_g4 (oj hn_g6 hn_g7)) ?_
 refine aw_makeMap (Kf:=keyI) rfl rfl rfl fun gd hn_gd=> ?_
 replace hn_gd:=Heap.ne_of hn_gd
 dsimp only [Heap.ne,gh] at hn_gd
 have J1:=oj hn_g4 (oj hn_g6 (oj hn_g7 hn_gd))
 refine ySG J1 ?_
 refine yA J1 fun g9 hn_g9=>?_
 have J2:=oj hn_g4 (oj hn_g6 (oj hn_g7 (oj hn_gd hn_g9)))
 refine yGWSG J2 ?_
 refine yA J2 fun g10 hn_g10=>?_
 have J3:=oj hn_g4 (oj hn_g6 (oj hn_g7 (oj hn_gd (oj hn_g9 hn_g10))))
 refine yG J3 ?_
 refine aw_makeFunc (gs:=[g4,g6,g9,g7,g10]) rfl rfl rfl (zE J3) ?_
 refine ySGWSG J3 ?_
 refine aw_callhv (hr:=[]) (walk_fh g4 g6 g9 g7 g10 gd gT gU gM ho hs.tab he hy (ns0.length+3) r og ns0 mm [] (by unfold RefOk at hr;omega) hr hs (CmOk.zero hs.tab hs.mem) (by have:=room_le (lv3_nonneg ho.mem hs.tab hr);omega)) rfl rfl rfl (zE J3) ?hp (zL J3) ?_
 ·rw [List.append_nil]
  exact(permL [(g10,_),(g9,_),(gd,_),(g7,_),(g6,_),(g4,_)] [0,1,2,3,4,5] [5,4,1,3,0,2] (by decide)).append_right (THp gT gU gM og o pl ns0 mm)
 rintro _ _ ⟨og',ns',mm',dl',x,s',k',l',r',b',_,_,rfl,rfl⟩ _
 rw [List.append_nil]
 refine ySG J3 ?_
 refine aw_keep [(8,.c (.int .i64 x))] (THp gT gU gM og' o pl ns' mm') (zB J3) (List.sublist_append_right (W6 g4 g6 g9 g7 g10 gd gT e y dl') _) ?_
 refine yU J3 ?_
 have hrl:=room_le (lv3_nonneg ho.mem hs.tab hr)
 have hp2:=Nat.pow_pos (n:=o.length) (show 0<2 by omega)
 exact⟨og',ns',mm',x,s',⟨l'.tab,l'.pre,by omega⟩,r'.1,r'.2,rfl,rfl⟩
theorem restrict_fh (gT gU gM:Nat) {o pl:List Int} (ho:OdOk o pl) {e:Nat} (he:e<o.length) {og:Option Nat} {ns:List DN} {mm:Mem3} (hs:TS o og ns mm) (hn:ns.length+2^o.length*2^(o.length+1)≤1000000000) {r:Int} (hr:RefOk ns r) (b:Bool):
  Fh Tryz.prog 180 (THp gT gU gM og o pl ns mm) [.c (.optr gT 0),.c (.int .i64 r),.c (.int .i64 e),.c (.bool b)] (OpQ gT gU gM o pl ns (2^o.length*2^(o.length+1)) fun s=>evalD ns (setB s e b) r):=by
 refine fh_of_body Tryz.func180 rfl rfl (by simp [Tryz.ntmps180]) fun C hC=> ?_
 simp only [initS,Nat.reduceAdd]
 refine xG ?_
 refine xF (fun h1=>?_) fun h1=>?_
 ·subst h1
  refine xG ?_
  refine aw_callh (hr:=[]) (compose_fh gT gU gM ho hs.tab he ref1 hs hn hr) rfl rfl rfl (by rw [List.append_nil]) eL ?_
  rintro _ _ ⟨og',ns',mm',x,e1,e2,e3,e4,rfl,rfl⟩ _
  rw [List.append_nil]
  refine xSGU ?_
  exact⟨og',ns',mm',x,e1,e2,e3,fun s=>by rw [e4];dsimp only;rw [ev1],rfl,rfl⟩
 ·subst h1
  refine xG ?_
  refine aw_callh (hr:=[]) (compose_fh gT gU gM ho hs.tab he ref0 hs hn hr) rfl rfl rfl (by rw [List.append_nil]) eL ?_
  rintro _ _ ⟨og',ns',mm',x,e1,e2,e3,e4,rfl,rfl⟩ _
  rw [List.append_nil]
  refine xSGU ?_
  exact⟨og',ns',mm',x,e1,e2,e3,fun s=>by rw [e4];dsimp only;rw [ev0],rfl,rfl⟩
end Go.Proofs.YtefekdejgbceiaaGreat
namespace Go.Proofs.YtefekdejgbceiaaGreat
open Go.AI Go.PN
attribute [local irreducible] aw Fa Fh DrK
structure CnOk (o:List Int) (ns:List DN) (dl:List (Int×Int)):Prop where
 sem:∀z∈dl,z.2=cntR o ns z.1
 low:∀q:Int,0≤q→q<2→dnGet q dl≠none
theorem dn_app {r:Int} {dl zs:List (Int×Int)} (h:dnGet r dl≠none):dnGet r (dl++zs)≠none:=by
 induction dl with
 |nil=>exact absurd rfl h
 |cons e dl ih=>
  rw [List.cons_append,dnGet]
  rw [dnGet] at h
  split
  ·simp
  ·rename_i hne
   rw [if_neg hne] at h
   exact ih h
end Go.Proofs.YtefekdejgbceiaaGreat
namespace Go.AI
@[go_sem] theorem one_map (m:Option Nat):(Value.map m).oneCell'=true:=rfl
@[go_sem] theorem one_ptr (m:Option Addr):(Value.pointer m).oneCell'=true:=rfl
section
variable {E : Env} {K : List It} {σ σ' : Sl} {h : Heap}
theorem aw_frzC {gT gP m n n' j0:Nat} {ty tp:TypeId} {f f' fp:Nat→CV} (hf:f j0=.osl gP 1 0 n') (hn:n'≤n) (hf':f' j0=.row true 1 n' fp) (hfo:∀j,j<m→j≠j0→f' j=f j) (ho:¬E.C.own0 gP)
  (k:aw E K σ ((gT,.cells ty m f')::h)):aw E K σ ((gT,.cells ty m f)::(gP,.cells tp n fp)::h):=fun a w st=>by
 refine k a w ?_
 have hnd:=st.nodup
 simp only [Heap.keys,List.map_cons,List.nodup_cons,List.mem_cons,not_or] at hnd
 obtain⟨⟨hTP,hTh⟩,hPh,hh⟩:=hnd
 have hgm:(gP,AObj.cells tp n fp)∈(gT,AObj.cells ty m f)::(gP,.cells tp n fp)::h:=List.mem_cons_of_mem _ (List.mem_cons_self ..)
 have hkg:gP∈Heap.keys ((gT,AObj.cells ty m f)::(gP,.cells tp n fp)::h):=List.mem_map.2 ⟨_,hgm,rfl⟩
 have hks:∀b,b∈Heap.keys ((gT,AObj.cells ty m f')::h)→b∈Heap.keys ((gT,AObj.cells ty m f)::(gP,.cells tp n fp)::h):=fun b hb=>by
  simp only [Heap.keys,List.map_cons,List.mem_cons] at hb⊢
  exact hb.imp id .inr
 have kp:Keeps (Stab E.C ((gT,.cells ty m f)::(gP,.cells tp n fp)::h) w) (Stab E.C ((gT,.cells ty m f')::h) w) w w:=⟨fun t b hb=>⟨hb.1,hb.2.1,fun hm=>hb.2.2 (hks b hm)⟩,fun _ _ _=>rfl,fun _ _ e=>e⟩
 refine⟨st.size,st.defers,fun t=>Rep.keep kp (st.slots t),fun g ob hm=> ?_,?_,fun g hg=>st.keys g (hks g hg),st.frame⟩
 ·rcases List.mem_cons.1 hm with e|hm
  ·rw [Prod.mk.injEq] at e
   obtain⟨e1,e2⟩:=e
   rw [e1,e2]
   clear hm e1 e2
   obtain⟨cs,hb,hcs,hj⟩:=st.heap gT _ (List.mem_cons_self ..)
   refine⟨cs,hb,hcs,fun j hjm=> ?_⟩
   obtain⟨u,hu,hr⟩:=hj j hjm
   refine⟨u,hu,?_⟩
   by_cases e:j=j0
   ·subst e
    rw [hf] at hr
    rw [hf']
    obtain⟨c,hv,hc,_,_⟩:=hr
    obtain⟨cs2,hb2,hcs2,hj2⟩:=st.heap gP _ hgm
    refine⟨some ⟨gP,0,none⟩,c,hv,hc,fun _=>⟨⟨gP,0,none⟩,rfl,⟨.inr ((st.keys gP hkg).resolve_left ho),st.klt hkg,?_⟩,fun q hq=> ?_⟩⟩
    ·simp only [Heap.keys,List.map_cons,List.mem_cons,not_or]
     exact⟨fun e=>hTP e.symm,hPh⟩
    ·obtain⟨u2,hu2,hr2⟩:=hj2 q om
     exact⟨u2,by rw [add_mk,Nat.zero_add,cell_own hb2];exact hu2,hr2.keep kp⟩
   ·rw [hfo j hjm e]
    exact hr.keep kp
  ·exact ORep.keep kp rfl (st.heap g ob (List.mem_cons_of_mem _ (List.mem_cons_of_mem _ hm)))
 ·simp only [Heap.keys,List.map_cons,List.nodup_cons]
  exact⟨hTh,hh⟩
end
end Go.AI
namespace Go.Proofs.YtefekdejgbceiaaGreat
open Go.AI Go.PN
attribute [local irreducible] aw Fa Fh DrK
theorem make_is' (n:Nat):(fun j=>[CV.int .i64 0][j%1]?.getD .any)=isF (List.replicate n 0):=by
 have:=make_is n
 simpa only [ofL_at] using this
theorem pl_ok {o:List Int} (hp:Perm0 o):PlOk o (placesL o):=⟨placesL_len o,fun _ hv=>placesL_get hv⟩
theorem new_fh (o:List Int) (hp:Perm0 o) (h24:o.length≤24):
  Fh Tryz.prog 30 [] [.c (is false o)] (fun x h=>∃gT gU gM,x=.c (.optr gT 0)∧h=THp gT gU gM none o (placesL o) [] []):=by
 refine fh_of_body Tryz.func30 rfl rfl (by simp [Tryz.ntmps30]) fun C hC=> ?_
 simp only [initS,Nat.reduceAdd]
 refine xG ?_
 refine aw_drB 7 ty_mixed (by kernel_rfl) ?_
 repeat first|(refine drb_2q true rfl (fun R hR=> ?_);simp only [go_sem];(with_reducible refine hR _ _ ?_ ?_);(focus (((try simp only [inRange])<;>and_intros<;>first|exact True.intro|omega|trivial);done));clear hR R)|fail
 refine drb_calm (CalmX.copy (size:=1) (z:=[.int .i64 0]) rfl rfl rfl eE eE rfl om eE eE .row (by unfold maxLen;omega) om) ?_
 refine xS ?_
 repeat first|(refine drb_2q true rfl (fun R hR=> ?_);simp only [go_sem];(with_reducible refine hR _ _ ?_ ?_);(focus (((try simp only [inRange])<;>and_intros<;>first|exact True.intro|omega|trivial);done));clear hR R)|fail
 refine drb_new rfl (NewX.make (n:=o.length) (c:=o.length) (size:=1) (z:=[.int .i64 0]) rfl rfl rfl eE eE rfl om eE eE rfl rfl om om om) (by kernel_rfl) ?_
 refine xS ?_
 refine drb_new rfl (NewX.makeMap (Kf:=dkV) rfl rfl rfl) (by kernel_rfl) ?_
 refine xS ?_
 refine drb_new rfl (NewX.makeMap (Kf:=key3) rfl rfl rfl) (by kernel_rfl) ?_
 refine xS ?_
 refine drb_nil fun γ=> ?_
 refine xS ?_
 rw [make_is' o.length]
 generalize γ 4=gP
 generalize γ 5=gU
 generalize γ 6=gM
 refine xG ?_
 refine xB fun gT hn_gT=>?_
 refine yG hn_gT ?_
 refine aw_nd fun hnd=> ?_
 simp only [Heap.keys,List.map_cons,List.map_nil] at hnd
 replace hnd:=ndP_of hnd
 dsimp only [ndP,neA] at hnd
 clear hn_gT
 refine aw_lp (fun x:Nat×List Int=>[(0,.c (is false o)),(3,.c (.optr gT 0)),(15,.c (is false o)),(16,.c (.int .i64 o.length)),(17,.c (.int .i64 x.1))]) (fun x=>[(gT,.cells 112 5 (ofL [is true o,.osl gP 1 0 o.length,.nils,.raw (.map (some gU)),.raw (.map (some gM))])),(gP,.cells 3 o.length (isF x.2)),(gU,.gen (MapI dkV [])),(gM,.gen (MapI key3 []))])
  (fun x=>x.1≤o.length∧x.2.length=o.length∧∀j,j<x.1→x.2.getD (o.getD j 0).toNat 0=j) (fun x=>o.length-x.1) (0,List.replicate o.length 0) (zB hnd) zZ ⟨Nat.zero_le _,List.length_replicate ..,fun j hj=>by omega⟩ ?_
 rintro ⟨k,zs⟩ ⟨hk,hzl,hz⟩
 dsimp only at hk hzl hz⊢
 refine yG hnd ?_
 refine yF hnd (fun h1=>?_) fun h1=>?_
 ·have h1':k<o.length:=dT h1
  have hrg:=hp.range (o.getD k 0) (by rw [getDZ h1'];exact List.getElem_mem h1')
  refine yGWS hnd ?_
  obtain⟨v,hv⟩:∃v:Nat,o.getD k 0=v:=⟨(o.getD k 0).toNat,by omega⟩
  rw [hv,Int.toNat_natCast,updF_is om]
  refine yG hnd ?_
  refine aw_stop ⟨(k+1,zs.set v k),by dsimp only;omega,(zB hnd),zZ,by dsimp only;omega,by simpa using hzl,fun j hj=> ?_⟩
  dsimp only at hj⊢
  by_cases e:j=k
  ·subst e
   rw [hv,Int.toNat_natCast,List.getD_eq_getElem?_getD,List.getElem?_set_self om]
   rfl
  ·have hne:(o.getD j 0).toNat≠v:=fun e2=>by
    have hj':j<o.length:=by omega
    have hr2:=hp.range (o.getD j 0) (by rw [getDZ hj'];exact List.getElem_mem hj')
    have p1:=place_get hp.nodup hj'
    have p2:=place_get hp.nodup h1'
    rw [show o.getD j 0=o.getD k 0 from by omega] at p1
    omega
   rw [List.getD_eq_getElem?_getD,List.getElem?_set_ne (fun e=>hne e.symm),←List.getD_eq_getElem?_getD]
   exact hz j om
 ·have h1':k=o.length:=dF h1
  subst h1'
  have hpl:=places_end hp hzl hz
  subst hpl
  refine yG hnd ?_
  refine aw_frzC (j0:=1) (n':=o.length) (f':=ofL [is true o,is true (placesL o),.nils,.raw (.map (some gU)),.raw (.map (some gM))]) rfl (Nat.le_refl _) (by show CV.row true 1 (placesL o).length _=_;rw [placesL_len]) (fun j hj hne=> ?_) ?_ ?_
  ·match j,hj,hne with
   |0,_,_=>rfl
   |1,_,hne=>exact absurd rfl hne
   |2,_,_=>rfl
   |3,_,_=>rfl
   |4,_,_=>rfl
  ·exact fun h=>by have:=(hC gP).1 h;simp [Heap.keys] at this
  refine yU hnd ?_
  exact⟨gT,gU,gM,rfl,rfl⟩
theorem getZset {l:List Int} {i:Nat} {v:Int} (h:i<l.length):(l.set i v).getD i 0=v:=by
 rw [List.getD_eq_getElem?_getD,List.getElem?_set_self h];rfl
theorem getZset' {l:List Int} {i j:Nat} {v:Int} (h:j≠i):(l.set i v).getD j 0=l.getD j 0:=by
 rw [List.getD_eq_getElem?_getD,List.getElem?_set_ne (fun e=>h e.symm),←List.getD_eq_getElem?_getD]
structure ImOk (d:DG) (ns:List DN) (rs:List Int) (k:Nat):Prop where
 ref:∀r:Nat,r<k+2→RefOk ns (rs.getD r 0)∧lvZ d.order d.nodes r≤lvZ d.order ns (rs.getD r 0)∧∀s,evalD ns s (rs.getD r 0)=evalD d.nodes s r
end Go.Proofs.YtefekdejgbceiaaGreat
namespace Go.AI
section
variable {E : Env} {K : List It} {σ σ' : Sl} {h : Heap} {all rest : List Oper} {o : Oper}
theorem lenMap_run {P:Program} {α:Type} {Kf:α→Value} {t kt et:TypeId} {kv:List (α×Value)} {x:Operand} {e:Operand→Value} {g:Nat} {w:World} {es:Array MapEntry} {c:Nat} (hop:o.op=.call {callee:=.builtin .len,args:= #[x],argTypes:= #[t]}) (ht:tMap P t=some (kt,et)) (hx:e x=.map (some g)) (hb:w.heap[g]?=some (.map es c))
  (hes:es.toList.map (fun e=>(e.key,e.val))=kv.map (fun p=>(Kf p.1,p.2))):(execOp e o).run P w=.ok (.value (.int .i64 (kv.length:Int))) w:=by
 have hl:es.size=kv.length:=by
  have:=congrArg List.length hes
  simpa using this
 simp [execOp,hop,resolve,invoke,Go.builtin,Builtin.len_,hx,run_underlying (tMap_spec ht),runGet hb,goInt,hl]
theorem aw_lenMap {α:Type} {Kf:α→Value} {t kt et g:TypeId} {kv:List (α×Value)} {x:Operand} (hop:o.op=.call {callee:=.builtin .len,args:= #[x],argTypes:= #[t]}) (hw:wantA all σ o=some true) (hd:dstOk E.N o.dst=true)
  (ht:tMap E.P t=some (kt,et)) (hx:ev σ x=.c (.raw (.map (some g)))) (hg:h.get g=some (.gen (MapI Kf kv)))
  (k:aw E (.ops all rest::K) (σ.setO o.dst (.c (.int .i64 (kv.length:Int)))) h):aw E (.ops all (o::rest)::K) σ h:=by
 refine aw_step hw (fun ac w s=> ?_) k
 have h1:=ev_rep s x
 rw [hx] at h1
 have h1':ac.eval x=.map (some g):=h1
 obtain⟨ob,hb,es,c,rfl,hes⟩:=s.heap g _ (Heap.get_mem hg)
 exact⟨_,w,.inl (lenMap_run hop ht h1' hb hes),s.put hd rfl⟩
end
end Go.AI
namespace Go.Proofs.YtefekdejgbceiaaGreat
open Go.AI Go.PN
attribute [local irreducible] aw Fa Fh DrK
theorem ty_bz:tZ1 Tryz.prog 4=some (.bool false):=by kernel_rfl
@[go_sem] theorem ty_mib_s:tSz Tryz.prog 116=some (false,1):=by kernel_rfl
@[go_sem] theorem ty_mib_z:tZero Tryz.prog 116=some [.raw (.map none)]:=by kernel_rfl
abbrev S6 (g1 g2 g3 g4 gd gT:Nat) (most:Int) (sl:List Int):Heap:=
 [(g1,.cells 116 1 (ofL [.raw (.map (some gd))])),(g2,.cells 3 1 (ofL [.int .i64 most])),(g3,.cells 117 1 (ofL [fnC 76 [g1,g2,g3,g4]])),(g4,.cells 64 1 (ofL [.optr gT 0])),(gd,.gen (MapI keyI (snL sl)))]
theorem swalk_fh (g1 g2 g3 g4 gd gT gU gM:Nat) (most:Int) {o pl:List Int} {og:Option Nat} {ns:List DN} {mm:Mem3} (hs:TS o og ns mm) (hn:ns.length≤1000000000):∀(k:Nat) (r:Int) (sl:List Int),r.toNat<k→RefOk ns r→
  Fh Tryz.prog 76 (S6 g1 g2 g3 g4 gd gT most sl++THp gT gU gM og o pl ns mm) ([.c (.int .i64 r)]++[g1,g2,g3,g4].map fun g=>.c (.optr g 0)) (fun x h=>∃sl',Sm o ns sl sl' r∧x=.tup []∧h=S6 g1 g2 g3 g4 gd gT most sl'++THp gT gU gM og o pl ns mm):=by
 intro k
 induction k with
 |zero=>intro r sl hk;omega
 |succ k ih=>
  intro r sl hk hr
  simp only [List.cons_append,List.nil_append,List.map_cons,List.map_nil]
  refine fh_of_body Tryz.func76 rfl rfl (by simp [Tryz.ntmps76]) fun C hC=> ?_
  simp only [initS,Nat.reduceAdd]
  simp only [S6,THp,TH,List.cons_append,List.nil_append]
  refine aw_nd fun hnd=> ?_
  simp only [Heap.keys,List.map_cons] at hnd
  replace hnd:=ndP_of hnd
  dsimp only [ndP,neA] at hnd
  refine yG hnd ?_
  refine aw_split 8 (zE hnd) (fun h1=> ?_) (fun h1=> ?_)<;>refine yS hnd ?_
  ·refine yGPGU hnd ?_
   exact⟨sl,Sm.same,rfl,rfl⟩
  have h1':=of_decide_eq_false h1
  have h2:2≤r:=by omega
  refine yG hnd ?_
  refine aw_lookup (a:=r) (kv:=snL sl) (Kf:=keyI) (kt:=3) (et:=4) rfl rfl rfl (by kernel_rfl) ty_ki ty_bz (zE hnd) (zE hnd) (zE hnd) keyI_rep ?_
  refine yS hnd ?_
  rw [sn_get]
  by_cases hm:r∈sl
  ·rw [if_pos hm]
   simp only [Option.getD_some,cstC]
   refine yGPGU hnd ?_
   exact⟨sl,Sm.same,rfl,rfl⟩
  rw [if_neg hm]
  simp only [Option.getD_none,cstC]
  refine yG hnd ?_
  refine aw_lenMap (kv:=snL sl) (Kf:=keyI) (kt:=3) (et:=4) rfl rfl rfl (by kernel_rfl) (zE hnd) (zE hnd) ?_
  refine ySG hnd ?_
  refine yF hnd (fun h3=>?_) fun h3=>?_
  ·refine yG hnd ?_
   refine yU hnd ?_
   exact⟨sl,Sm.same,rfl,rfl⟩
  obtain⟨g,rfl⟩:∃g,og=some g:=by
   cases og with
   |none=>have:=hs.og rfl;unfold RefOk at hr;omega
   |some g=>exact⟨g,rfl⟩
  simp only [gh,List.map_cons,List.map_nil,neA,ndP] at hnd
  simp only [gs,gh]
  have hi:(r-2).toNat<ns.length:=by unfold RefOk at hr;omega
  obtain⟨w0,w1,w2,w3,w4,w5⟩:=(hs.tab.ns _ hi)
  obtain⟨kl,kh⟩:=kids_ref hs.tab hi
  have hrl:r<ns.length+2:=hr.2
  have nd0:∀s1 s2,Sm o ns (sl++[r]) s1 (ns.getD (r-2).toNat dn0).lo→Sm o ns s1 s2 (ns.getD (r-2).toNat dn0).hi→Sm o ns sl s2 r:=fun s1 s2 a b=>Sm.node hs.tab h2 hrl a b
  generalize hx0:ns.getD (r-2).toNat dn0=nd at*
  have J1:=oj hnd hx0
  refine yG J1 ?_
  refine aw_mapNew (a:=r) (kv:=snL sl) (Kf:=keyI) (v:=.bool true) rfl rfl rfl (kt:=3) (et:=4) (by kernel_rfl) ty_ki (zE J1) (zE J1) (zE J1) keyI_rep (cv:=.c (.bool true)) (zE J1) (fun S w u h=>h) (by rw [sn_get,if_neg hm]) (zE J1) ?_
  rw [sn_push]
  refine ySG J1 ?_
  refine aw_cw ([(g3,.cells 117 1 (ofL [fnC 76 [g1,g2,g3,g4]])),(g4,.cells 64 1 (ofL [.optr gT 0])),(gT,.cells 112 5 (ofL [is true o,is true pl,.osl g 3 0 ns.length,.raw (.map (some gU)),.raw (.map (some gM))])),(g,.cells 119 (ns.length*3) (dnsF ns))]) [(0,0),(1,0),(2,0),(3,0),(4,0),(5,0),(6,0),(7,0),(8,0),(9,0),(10,1)] ty_mixed (by kernel_rfl) eI ?_
  refine yG J1 ?_
  refine cw_callhv (gs:=[g1,g2,g3,g4]) (hr:=[]) rfl (ih nd.lo (sl++[r]) om kl) rfl rfl rfl (zE J1) (by rw [List.append_nil];exact .refl _) (zL J1) (by
   rintro _ _ ⟨_,_,rfl,rfl⟩;simp only [S6,THp,TH,gs,gh,List.append_assoc,List.cons_append,List.nil_append];exact eI) ?_ (hm:=.inr ⟨rfl,rfl⟩)
  rintro _ _ ⟨sl1,m1,rfl,rfl⟩ _
  rw [List.append_nil]
  simp only [S6,THp,TH,gs,gh,List.cons_append,List.nil_append]
  refine ySG J1 ?_
  refine aw_cw ([(g3,.cells 117 1 (ofL [fnC 76 [g1,g2,g3,g4]])),(g4,.cells 64 1 (ofL [.optr gT 0])),(gT,.cells 112 5 (ofL [is true o,is true pl,.osl g 3 0 ns.length,.raw (.map (some gU)),.raw (.map (some gM))])),(g,.cells 119 (ns.length*3) (dnsF ns))]) [(0,0),(1,0),(2,0),(3,0),(4,0),(5,0),(6,0),(7,0),(8,0),(9,0),(10,1)] ty_mixed (by kernel_rfl) eI ?_
  refine yG J1 ?_
  refine cw_callhv (gs:=[g1,g2,g3,g4]) (hr:=[]) rfl (ih nd.hi sl1 om kh) rfl rfl rfl (zE J1) (by rw [List.append_nil];exact .refl _) (zL J1) (by
   rintro _ _ ⟨_,_,rfl,rfl⟩;simp only [S6,THp,TH,gs,gh,List.append_assoc,List.cons_append,List.nil_append];exact eI) ?_ (hm:=.inr ⟨rfl,rfl⟩)
  rintro _ _ ⟨sl2,m2,rfl,rfl⟩ _
  rw [List.append_nil]
  refine ySG J1 ?_
  refine yV J1 ?_
  exact⟨sl2,nd0 sl1 sl2 m1 m2,rfl,rfl⟩
theorem small_fh (gT gU gM:Nat) {o pl:List Int} (ho:OdOk o pl) {og:Option Nat} {ns:List DN} {mm:Mem3} (hs:TS o og ns mm) (hn:ns.length≤1000000000) {r:Int} (hr:RefOk ns r) {most:Int} (hm:((2^o.length:Nat):Int)≤most+1):
  Fh Tryz.prog 33 (THp gT gU gM og o pl ns mm) [.c (.optr gT 0),.c (.int .i64 r),.c (.int .i64 most)] (fun x h=>x=.c (.bool true)∧h=THp gT gU gM og o pl ns mm):=by
 refine fh_of_body Tryz.func33 rfl rfl (by simp [Tryz.ntmps33]) fun C hC=> ?_
 simp only [initS,Nat.reduceAdd]
 unfold THp TH
 simp only [List.cons_append,List.nil_append]
 refine xG ?_
 refine xB fun g3 hn_g3=>?_
 refine yG hn_g3 ?_
 refine yB hn_g3 fun g5 hn_g5=>?_
 refine yG (oj hn_g3 hn_g5) ?_
 refine aw_makeMap (Kf:=keyI) rfl rfl rfl fun gd hn_gd=> ?_
 replace hn_gd:=Heap.ne_of hn_gd
 dsimp only [Heap.ne,gh] at hn_gd
 have J1:=oj hn_g3 (oj hn_g5 hn_gd)
 refine ySG J1 ?_
 refine yA J1 fun g7 hn_g7=>?_
 have J2:=oj hn_g3 (oj hn_g5 (oj hn_gd hn_g7))
 refine yGWSG J2 ?_
 refine yA J2 fun g8 hn_g8=>?_
 have J3:=oj hn_g3 (oj hn_g5 (oj hn_gd (oj hn_g7 hn_g8)))
 refine yG J3 ?_
 refine aw_makeFunc (gs:=[g7,g5,g8,g3]) rfl rfl rfl (zE J3) ?_
 refine ySGWSG J3 ?_
 refine aw_callhv (hr:=[]) (swalk_fh (pl:=pl) g7 g5 g8 g3 gd gT gU gM most hs hn (r.toNat+1) r [] om hr) rfl rfl rfl (zE J3) ?hp (zL J3) ?_
 ·rw [List.append_nil]
  exact(permL [(g8,_),(g7,_),(gd,_),(g5,_),(g3,_)] [0,1,2,3,4] [1,3,0,4,2] (by decide)).append_right (THp gT gU gM og o pl ns mm)
 rintro _ _ ⟨sl,m,rfl,rfl⟩ _
 rw [List.append_nil]
 have hl:sl.length≤2^o.length-1:=by
  have h0:=lv3_nonneg ho.mem hs.tab hr
  have:=m.len
  have hp:2^((o.length:Int)-lvZ o ns r).toNat≤2^o.length:=Nat.pow_le_pow_right om om
  simp only [List.length_nil] at this
  omega
 have hd:decide ((sl.length:Int)≤most)=true:=decide_eq_true (by
  have:=Nat.pow_pos (n:=o.length) (show 0<2 by omega)
  omega)
 unfold THp TH S6
 simp only [List.cons_append,List.nil_append]
 refine ySG J3 ?_
 refine aw_lenMap (kv:=snL sl) (Kf:=keyI) (kt:=3) (et:=4) rfl rfl rfl (by kernel_rfl) (zE J3) (zE J3) ?_
 rw [show(snL sl).length=sl.length from by simp [snL]]
 have J4:=oj hn_g3 (oj hn_g5 (oj hn_gd (oj hn_g7 (oj hn_g8 hd))))
 refine ySG J4 ?_
 refine aw_keep [(6,.c (.bool true))] (THp gT gU gM og o pl ns mm) (zB J4) (List.sublist_append_right (S6 g7 g5 g8 g3 gd gT most sl) _) ?_
 refine yU J4 ?_
 exact⟨rfl,rfl⟩
end Go.Proofs.YtefekdejgbceiaaGreat
namespace Go.AI
section
variable {E : Env} {K : List It} {σ σ' : Sl} {h : Heap} {all rest : List Oper} {o : Oper}
theorem aw_frzG {gT m s n j0:Nat} {og:Option Nat} {ty tp:TypeId} {f f' fp:Nat→CV} (hf:f j0=gs og s n) (hf':f' j0=.row true s n fp) (hfo:∀j,j<m→j≠j0→f' j=f j) (hog:og=none→n=0) (ho:∀g,og=some g→¬E.C.own0 g)
  (k:aw E K σ ((gT,.cells ty m f')::h)):aw E K σ ((gT,.cells ty m f)::(gh og tp (n*s) fp++h)):=by
 cases og with
 |none=>
  have hn:=hog rfl
  subst hn
  refine aw_convR (f':=f') (fun j hj S w u hr=> ?_) k
  by_cases e:j=j0
  ·subst e
   rw [hf] at hr
   rw [hf']
   exact repC_nil hr
  ·rw [hfo j hj e];exact hr
 |some gP=>
  have ho:=ho gP rfl
  show aw E K σ ((gT,.cells ty m f)::(gP,.cells tp (n*s) fp)::h)
  intro a w st
  refine k a w ?_
  have hnd:=st.nodup
  simp only [Heap.keys,List.map_cons,List.nodup_cons,List.mem_cons,not_or] at hnd
  obtain⟨⟨hTP,hTh⟩,hPh,hh⟩:=hnd
  have hgm:(gP,AObj.cells tp (n*s) fp)∈(gT,AObj.cells ty m f)::(gP,.cells tp (n*s) fp)::h:=List.mem_cons_of_mem _ (List.mem_cons_self ..)
  have hkg:gP∈Heap.keys ((gT,AObj.cells ty m f)::(gP,.cells tp (n*s) fp)::h):=List.mem_map.2 ⟨_,hgm,rfl⟩
  have hks:∀b,b∈Heap.keys ((gT,AObj.cells ty m f')::h)→b∈Heap.keys ((gT,AObj.cells ty m f)::(gP,.cells tp (n*s) fp)::h):=fun b hb=>by
   simp only [Heap.keys,List.map_cons,List.mem_cons] at hb⊢
   exact hb.imp id .inr
  have kp:Keeps (Stab E.C ((gT,.cells ty m f)::(gP,.cells tp (n*s) fp)::h) w) (Stab E.C ((gT,.cells ty m f')::h) w) w w:=⟨fun t b hb=>⟨hb.1,hb.2.1,fun hm=>hb.2.2 (hks b hm)⟩,fun _ _ _=>rfl,fun _ _ e=>e⟩
  refine⟨st.size,st.defers,fun t=>Rep.keep kp (st.slots t),fun g ob hm=> ?_,?_,fun g hg=>st.keys g (hks g hg),st.frame⟩
  ·rcases List.mem_cons.1 hm with e|hm
   ·rw [Prod.mk.injEq] at e
    obtain⟨e1,e2⟩:=e
    rw [e1,e2]
    clear hm e1 e2
    obtain⟨cs,hb,hcs,hj⟩:=st.heap gT _ (List.mem_cons_self ..)
    refine⟨cs,hb,hcs,fun j hjm=> ?_⟩
    obtain⟨u,hu,hr⟩:=hj j hjm
    refine⟨u,hu,?_⟩
    by_cases e:j=j0
    ·subst e
     rw [hf] at hr
     rw [hf']
     obtain⟨c,hv,hc,_,_⟩:=hr
     obtain⟨cs2,hb2,hcs2,hj2⟩:=st.heap gP _ hgm
     refine⟨some ⟨gP,0,none⟩,c,hv,hc,fun _=>⟨⟨gP,0,none⟩,rfl,⟨.inr ((st.keys gP hkg).resolve_left ho),st.klt hkg,?_⟩,fun q hq=> ?_⟩⟩
     ·simp only [Heap.keys,List.map_cons,List.mem_cons,not_or]
      exact⟨fun e=>hTP e.symm,hPh⟩
     ·obtain⟨u2,hu2,hr2⟩:=hj2 q hq
      exact⟨u2,by rw [add_mk,Nat.zero_add,cell_own hb2];exact hu2,hr2.keep kp⟩
    ·rw [hfo j hjm e]
     exact hr.keep kp
   ·exact ORep.keep kp rfl (st.heap g ob (List.mem_cons_of_mem _ (List.mem_cons_of_mem _ hm)))
  ·simp only [Heap.keys,List.map_cons,List.nodup_cons]
   exact⟨hTh,hh⟩
theorem aw_calmX {r:AV} (hc:CalmX E h all σ o r) (k:aw E (.ops all rest::K) (σ.setO o.dst r) h):aw E (.ops all (o::rest)::K) σ h:=fun a w s=>by
 show wpList _ _ _ _ _ _
 unfold wpList
 have:=hc.2 σ [] a w (exW E K) (fun _ _=>rfl) (by simpa using s)
 split
 ·rename_i hw
  rw [if_pos hw] at this
  exact .inl (Oper.wp_mono (fun a' w' s'=>k a' w' (by simpa using s')) this)
 ·rename_i hw
  rw [if_neg hw] at this
  subst this
  exact k _ _ (s.put hc.1 (r:=.tup []) ⟨[],rfl,trivial⟩)
theorem aw_copy {t e size bytes k:Nat} {z:List CV} {f2:Nat→CV} {s x:Operand} {cx:CV} (hop:o.op=.call {callee:=.builtin .append,args:= #[s,x],argTypes:= #[t,t]}) (hw:wantA all σ o=some true) (hd:dstOk E.N o.dst=true)
  (ht:tElem E.P t=some (e,size,bytes)) (hz:tZero E.P e=some z) (hzl:z.length=size) (hs0:0<size) (hs:ev σ s=.c .nils) (hx:ev σ x=.c cx) (hsrc:Src h size cx k f2)
  (h63:k≤maxLen) (hby:k*bytes≤140737488355328) (kk:aw E (.ops all rest::K) (σ.setO o.dst (.c (.row true size k f2))) h):aw E (.ops all (o::rest)::K) σ h:=
 aw_calmX (CalmX.copy hop hw hd ht hz hzl hs0 hs hx hsrc h63 hby) kk
end
end Go.AI
namespace Go.AI
@[go_sem ↓] theorem updF_3_1' (a b c x:CV):updF (ofL [a,b,c]) 1 [x]=ofL [a,x,c]:=updF_at [a,b,c] 1 x (by simp)
@[go_sem ↓] theorem updF_3_2' (a b c x:CV):updF (ofL [a,b,c]) 2 [x]=ofL [a,b,x]:=updF_at [a,b,c] 2 x (by simp)
end Go.AI
namespace Go.PN
open Go.AI
def exTo:List Int→Nat→List (Int×Int)
 |[],_=>[]
 |r::rs,i=>(r,2+(i:Int))::exTo rs (i+1)
def exL (rs:List Int):List (Int×Int):=(0,0)::(1,1)::exTo rs 0
theorem exTo_push (r:Int):∀(rs:List Int) (i:Nat),exTo (rs++[r]) i=exTo rs i++[(r,2+((i+rs.length:Nat):Int))]
 |[],i=>by simp [exTo]
 |x::rs,i=>by
  show _::exTo (rs++[r]) (i+1)=_::(exTo rs (i+1)++_)
  rw [exTo_push r rs (i+1)]
  simp only [List.length_cons]
  congr 5
  omega
theorem exL_push (rs:List Int) (r:Int):exL rs++[(r,2+(rs.length:Int))]=exL (rs++[r]):=by
 unfold exL
 rw [exTo_push]
 simp
theorem exTo_get (r:Int):∀(rs:List Int) (i:Nat),dnGet r (exTo rs i)=if r∈rs then some (2+((i+rs.idxOf r:Nat):Int)) else none
 |[],i=>by simp [exTo,dnGet]
 |x::rs,i=>by
  rw [exTo,dnGet]
  by_cases e:r=x
  ·subst e;simp
  ·rw [if_neg e,exTo_get r rs (i+1)]
   by_cases hm:r∈rs
   ·have hi:(x::rs).idxOf r=rs.idxOf r+1:=by rw [List.idxOf_cons,beq_false_of_ne (fun h=>e h.symm)];rfl
    rw [if_pos hm,if_pos (List.mem_cons_of_mem _ hm),hi]
    congr 2
    omega
   ·rw [if_neg hm,if_neg (by simp [e,hm])]
theorem exL_get {r:Int} (h0:0≤r) (rs:List Int) (hb:∀x∈rs,2≤x):dnGet r (exL rs)=exR rs r:=by
 unfold exL exR
 rw [dnGet,dnGet]
 dsimp only
 by_cases e0:r=0
 ·subst e0;simp
 ·rw [if_neg e0]
  by_cases e1:r=1
  ·subst e1;simp
  ·rw [if_neg e1,if_neg om,exTo_get,Nat.zero_add]
   split
   ·congr 1;omega
   ·rfl
theorem perm_ex {α:Type} (T A B:List α) (x:α):(T++(A++(B++[x]))).Perm (B++(x::(T++A))):=by
 have:=List.perm_append_comm (l₁:=T++A) (l₂:=B++[x])
 simpa using this
theorem ExOk.lenle {ns:List DN} {rs:List Int} {os:List DN} (h:ExOk ns rs os):rs.length≤ns.length:=nodup_range h.nd h.bd
end Go.PN
namespace Go.Proofs.YtefekdejgbceiaaGreat
open Go.AI Go.PN
attribute [local irreducible] aw Fa Fh DrK
abbrev X5 (g1 g2 g3 g4 gd gT:Nat) (oo:List Int) (rs:List Int) (oN:Option Nat) (n:Nat):Heap:=
 [(g1,.cells 120 1 (ofL [.raw (.map (some gd))])),(g2,.cells 64 1 (ofL [.optr gT 0])),(g3,.cells 66 1 (ofL [fnC 77 [g1,g2,g3,g4]])),(g4,.cells 31 3 (ofL [is true oo,gs oN 3 n,.int .i64 0])),(gd,.gen (MapI keyI (dnL (exL rs))))]
abbrev HX (g1 g2 g3 g4 gd gT gU gM:Nat) (og:Option Nat) (o pl:List Int) (ns:List DN) (mm:Mem3) (oo:List Int) (rs:List Int) (oN:Option Nat) (os:List DN):Heap:=
 (X5 g1 g2 g3 g4 gd gT oo rs oN os.length++THp gT gU gM og o pl ns mm)++gh oN 119 (os.length*3) (dnsF os)
theorem ewalk_fh (g1 g2 g3 g4 gd gT gU gM:Nat) {o pl:List Int} {og:Option Nat} {ns:List DN} {mm:Mem3} (hs:TS o og ns mm) (hn:ns.length≤1000000000) (oo:List Int):∀(k:Nat) (r:Int) (rs:List Int) (oN:Option Nat) (os:List DN),r.toNat<k→RefOk ns r→ExOk ns rs os→(oN=none→os.length=0)→
  Fh Tryz.prog 77 (HX g1 g2 g3 g4 gd gT gU gM og o pl ns mm oo rs oN os) ([.c (.int .i64 r)]++[g1,g2,g3,g4].map fun g=>.c (.optr g 0)) (fun x h=>∃rs' oN' os' y,Ex o ns rs os rs' os' r y∧(oN'=none→os'.length=0)∧x=.c (.int .i64 y)∧h=HX g1 g2 g3 g4 gd gT gU gM og o pl ns mm oo rs' oN' os'):=by
 intro k
 induction k with
 |zero=>intro r rs oN os hk;omega
 |succ k ih=>
  intro r rs oN os hk hr hx hoN
  simp only [List.cons_append,List.nil_append,List.map_cons,List.map_nil]
  refine fh_of_body Tryz.func77 rfl rfl (by simp [Tryz.ntmps77]) fun C hC=> ?_
  simp only [initS,Nat.reduceAdd]
  simp only [HX,X5,THp,TH,List.cons_append,List.nil_append]
  refine aw_nd fun hnd=> ?_
  simp only [Heap.keys,List.map_cons] at hnd
  replace hnd:=ndP_of hnd
  dsimp only [ndP,neA] at hnd
  refine yG hnd ?_
  refine aw_lookup2 (a:=r) (kv:=dnL (exL rs)) (Kf:=keyI) (kt:=3) (et:=3) rfl rfl rfl (by kernel_rfl) ty_ki ty_iz (zE hnd) (zE hnd) (zE hnd) keyI_rep ?_
  refine yS hnd ?_
  rw [dn_get,exL_get hr.1 rs (fun x hm=>(hx.bd x hm).1)]
  cases hf:exR rs r with
  |some y=>
   try simp only [Option.map_some,Option.getD_some,Option.isSome_some,cstC]
   refine yGPGU hnd ?_
   exact⟨rs,oN,os,y,ex_same hx hr.1 hf,hoN,rfl,by simp only [HX,X5,THp,TH,List.cons_append,List.nil_append]⟩
  |none=>
   try simp only [Option.map_none,Option.getD_none,Option.isSome_none,cstC]
   refine yG hnd ?_
   refine yN hnd ?_
   have h2:2≤r:=by
    refine Classical.byContradiction fun h=> ?_
    unfold exR at hf
    rw [if_pos om] at hf
    cases hf
   have hnew:r∉rs:=fun hm=>by
    unfold exR at hf
    rw [if_neg om,if_pos hm] at hf
    cases hf
   obtain⟨g,rfl⟩:∃g,og=some g:=by
    cases og with
    |none=>have:=hs.og rfl;unfold RefOk at hr;omega
    |some g=>exact⟨g,rfl⟩
   have hi:(r-2).toNat<ns.length:=by unfold RefOk at hr;omega
   have hrl:r<ns.length+2:=hr.2
   obtain⟨w0,w1,w2,w3,w4,w5⟩:=(hs.tab.ns _ hi)
   obtain⟨kl,kh⟩:=kids_ref hs.tab hi
   have hnode:∀{rs1 rs2:List Int} {os1 os2:List DN} {xl xh:Int},Ex o ns rs os rs1 os1 (ns.getD (r-2).toNat dn0).lo xl→Ex o ns rs1 os1 rs2 os2 (ns.getD (r-2).toNat dn0).hi xh→r∉rs2∧Ex o ns rs os (rs2++[r]) (os2++[⟨(ns.getD (r-2).toNat dn0).v,xl,xh⟩]) r ((rs2.length:Int)+2):=fun a b=>ex_node hs.tab h2 hrl hnew a b
   simp only [gs,gh,List.cons_append,List.nil_append]
   clear hnd
   refine aw_nd fun hnd=> ?_
   simp only [Heap.keys,List.map_cons,List.map_append] at hnd
   replace hnd:=ndP_of hnd
   dsimp only [ndP,neA] at hnd
   generalize hx0:ns.getD (r-2).toNat dn0=nd at*
   refine yG (oj hnd hx0) ?_
   refine yA (oj hnd hx0) fun g9 hn_g9=>?_
   have J1:=oj hnd (oj hx0 hn_g9)
   refine yGWSG J1 ?_
   refine aw_callhv (hr:=[(g9,.cells 119 3 (ofL [.int .i64 nd.v,.int .i64 nd.lo,.int .i64 nd.hi]))]) (gs:=[g1,g2,g3,g4]) (ih nd.lo rs oN os om kl hx hoN) rfl rfl rfl (zE J1) ?_ (zL J1) ?_
   ·exact List.perm_append_comm (l₁:=[(g9,_)])
   rintro _ _ ⟨rs1,oN1,os1,xl,a1,hoN1,rfl,rfl⟩ _
   refine aw_perm List.perm_append_comm ?_
   simp only [HX,X5,THp,TH,gs,gh,List.cons_append,List.nil_append]
   clear hnd J1
   refine aw_nd fun hnd=> ?_
   simp only [Heap.keys,List.map_cons,List.map_append] at hnd
   replace hnd:=ndP_of hnd
   dsimp only [ndP,neA] at hnd
   refine ySG hnd ?_
   refine aw_callhv (hr:=[(g9,.cells 119 3 (ofL [.int .i64 nd.v,.int .i64 nd.lo,.int .i64 nd.hi]))]) (gs:=[g1,g2,g3,g4]) (ih nd.hi rs1 oN1 os1 om kh a1.ok hoN1) rfl rfl rfl (zE hnd) ?_ (zL hnd) ?_
   ·exact List.perm_append_comm (l₁:=[(g9,_)])
   rintro _ _ ⟨rs2,oN2,os2,xh,b1,hoN2,rfl,rfl⟩ _
   refine aw_perm List.perm_append_comm ?_
   simp only [HX,X5,THp,TH,gh,List.cons_append,List.nil_append]
   clear hnd
   refine aw_nd fun hnd=> ?_
   simp only [Heap.keys,List.map_cons,List.map_append] at hnd
   replace hnd:=ndP_of hnd
   dsimp only [ndP,neA] at hnd
   obtain⟨hout,hex⟩:=hnode a1 b1
   have l2:=b1.ok.len
   have l3:=b1.ok.lenle
   have hlen:=lenCV_gs (s:=3) hoN2
   (try simp only[go_sem,hnd,↓hlen])
   repeat first|apply wa1|apply wa2|apply wa3|apply wa4|apply wa5 rfl|apply wa6|apply wa7|(refine wb1 rfl fun R r=>?_;simp only[go_sem,hnd,↓hlen];with_reducible show R (some _);with_reducible refine r _ _ ?_;clear r R)
   refine aw_push (pre:=[(g9,.cells 119 3 (ofL [.int .i64 nd.v,.int .i64 nd.lo,.int .i64 nd.hi])),(g1,.cells 120 1 (ofL [.raw (.map (some gd))])),(g2,.cells 64 1 (ofL [.optr gT 0])),(g3,.cells 66 1 (ofL [fnC 77 [g1,g2,g3,g4]])),(g4,.cells 31 3 (ofL [is true oo,gs oN2 3 os2.length,.int .i64 0])),(gd,.gen (MapI keyI (dnL (exL rs2)))),(gT,.cells 112 5 (ofL [is true o,is true pl,.osl g 3 0 ns.length,.raw (.map (some gU)),.raw (.map (some gM))])),(gU,.gen (MapI dkV (uqTo ns 0))),(gM,.gen (MapI key3 (mmL mm))),(g,.cells 119 (ns.length*3) (dnsF ns))]) rfl rfl rfl rfl rfl rfl rfl (by simp only[go_sem,hnd,↓hlen]<;>rfl) (by simp only[go_sem,hnd,↓hlen]<;>rfl) (by rfl) om om (by simp only[go_sem,hnd,↓hlen]<;>rfl) om (by exact hoN2) (by simp only[go_sem,hnd,↓hlen]<;>rfl) (by rfl) (by rfl) (by first|rfl|simp only [Nat.mul_one,List.nil_append,List.cons_append]<;>rfl) (by unfold maxLen;omega) om (by exact lf_push (xs:=os2) rfl (⟨nd.v,xl,xh⟩:DN) om) fun gN hn_gN=> ?_
   replace hn_gN:=Heap.ne_of hn_gN
   first|dsimp only [Heap.ne,gh] at hn_gN|dsimp only [Heap.ne] at hn_gN|skip
   (try simp only[go_sem,hnd,↓hlen,hn_gN])
   simp only [gs,gh,List.cons_append,List.nil_append]
   repeat first|apply wa1|apply wa2|apply wa3|apply wa4|apply wa5 rfl|apply wa6|apply wa7|(refine wb1 rfl fun R r=>?_;simp only[go_sem,hnd,↓hlen,hn_gN];with_reducible show R (some _);with_reducible refine r _ _ ?_;clear r R)
   refine aw_store rfl rfl rfl rfl (by simp only[go_sem,hnd,↓hlen,hn_gN]<;>rfl) (by simp only[go_sem,hnd,↓hlen,hn_gN]<;>rfl) (by simp only[go_sem,hnd,↓hlen,hn_gN]<;>rfl) (by simp only[go_sem,hnd,↓hlen,hn_gN]<;>rfl) (fun _ e=>by cases e) (by first|rfl|exact solid_gs3|exact solid_gs2) (by rfl) (by first|omega|simp) rfl ?_
   (try simp only[go_sem,hnd,↓hlen,hn_gN])
   repeat first|apply wa1|apply wa2|apply wa3|apply wa4|apply wa5 rfl|apply wa6|apply wa7|(refine wb1 rfl fun R r=>?_;simp only[go_sem,hnd,↓hlen,hn_gN];with_reducible show R (some _);with_reducible refine r _ _ ?_;clear r R)
   have e1:(1:Int)+((os2.length+1:Nat):Int)=2+(rs2.length:Int):=by omega
   have e1':(1:Int)+((os2.length:Int)+1)=2+(rs2.length:Int):=by omega
   have hb2:∀x∈rs2,2≤x:=fun x hm=>(b1.ok.bd x hm).1
   refine aw_mapNew (a:=r) (kv:=dnL (exL rs2)) (Kf:=keyI) (v:=.int .i64 (2+(rs2.length:Int))) rfl rfl rfl (kt:=3) (et:=3) (by kernel_rfl) ty_ki (by simp only[go_sem,hnd,↓hlen,hn_gN]<;>rfl) (by simp only[go_sem,hnd,↓hlen,hn_gN]<;>rfl) (by simp only[go_sem,hnd,↓hlen,hn_gN]<;>rfl) keyI_rep (cv:=.c (.int .i64 (2+(rs2.length:Int)))) (by(try simp only[go_sem,hnd,↓hlen,hn_gN]);first|rfl|rw [e1]|rw [e1']) (fun S w u h=>h) (by rw [dn_get,exL_get hr.1 rs2 hb2];unfold exR;rw [if_neg om,if_neg hout];rfl) (by simp only[go_sem,hnd,↓hlen,hn_gN]<;>rfl) ?_
   rw [dnL_push,exL_push]
   (try simp only[go_sem,hnd,↓hlen,hn_gN])
   repeat first|apply wa1|apply wa2|apply wa3|apply wa4|apply wa5 rfl|apply wa6|apply wa7|(refine wb1 rfl fun R r=>?_;simp only[go_sem,hnd,↓hlen,hn_gN];with_reducible show R (some _);with_reducible refine r _ _ ?_;clear r R)
   refine aw_lookup (a:=r) (kv:=dnL (exL (rs2++[r]))) (Kf:=keyI) (kt:=3) (et:=3) rfl rfl rfl (by kernel_rfl) ty_ki ty_iz (by simp only[go_sem,hnd,↓hlen,hn_gN]<;>rfl) (by simp only[go_sem,hnd,↓hlen,hn_gN]<;>rfl) (by simp only[go_sem,hnd,↓hlen,hn_gN]<;>rfl) keyI_rep ?_
   rw [dn_get,exL_get hr.1 _ (fun x hm=>by rcases List.mem_append.1 hm with hm|hm;exact hb2 x hm;rw [List.mem_singleton] at hm;omega),hex.ref]
   try simp only [Option.map_some,Option.getD_some,cstC]
   (try simp only[go_sem,hnd,↓hlen,hn_gN])
   repeat first|apply wa1|apply wa2|apply wa3|apply wa4|apply wa5 rfl|apply wa6|apply wa7|(refine wb1 rfl fun R r=>?_;simp only[go_sem,hnd,↓hlen,hn_gN];with_reducible show R (some _);with_reducible refine r _ _ ?_;clear r R)
   refine aw_keep [(6,.c (.int .i64 ((rs2.length:Int)+2)))] (HX g1 g2 g3 g4 gd gT gU gM (some g) o pl ns mm oo (rs2++[r]) (some gN) (os2++[⟨nd.v,xl,xh⟩])) (by simp only[go_sem,hnd,↓hlen,hn_gN]<;>and_intros<;>first|exact True.intro|(with_reducible rfl)|exact c_int om|rfl) (by
    simp only [HX,X5,THp,TH,gs,gh,List.cons_append,List.nil_append,List.length_append,List.length_singleton]
    exact List.Sublist.cons _ (List.Sublist.refl _)) ?_
   (refine aw_rethq rfl fun R r=>?_;simp only[go_sem,hnd,↓hlen,hn_gN];refine r _ rfl ?_;clear r R)
   exact⟨rs2++[r],some gN,os2++[⟨nd.v,xl,xh⟩],_,hex,some_ne,rfl,rfl⟩
theorem export_fh (gT gU gM:Nat) {o pl:List Int} (ho:OdOk o pl) {og:Option Nat} {ns:List DN} {mm:Mem3} (hs:TS o og ns mm) (hn:ns.length≤1000000000) {r:Int} (hr:RefOk ns r):
  Fh Tryz.prog 34 (THp gT gU gM og o pl ns mm) [.c (.optr gT 0),.c (.int .i64 r)] (fun x h=>∃rs os y,Ex o ns [] [] rs os r y∧x=.agg (dgc true ⟨o,os,y⟩)∧h=THp gT gU gM og o pl ns mm):=by
 have l24:=ho.l24
 refine fh_of_body Tryz.func34 rfl rfl (by simp [Tryz.ntmps34]) fun C hC=> ?_
 simp only [initS,Nat.reduceAdd]
 unfold THp TH
 simp only [List.cons_append,List.nil_append]
 refine xG ?_
 refine xB fun g2 hn_g2=>?_
 refine yG hn_g2 ?_
 refine yA hn_g2 fun g4 hn_g4=>?_
 have J1:=oj hn_g2 hn_g4
 refine yG J1 ?_
 refine aw_copy (size:=1) (z:=[.int .i64 0]) rfl rfl rfl (zE J1) (zE J1) rfl om (zE J1) (zE J1) .row (by unfold maxLen;omega) om ?_
 refine ySG J1 ?_
 refine yA J1 fun g5 hn_g5=>?_
 have J2:=oj hn_g2 (oj hn_g4 hn_g5)
 refine yGWSG J2 ?_
 refine aw_makeMap (Kf:=keyI) rfl rfl rfl fun gd hn_gd=> ?_
 replace hn_gd:=Heap.ne_of hn_gd
 dsimp only [Heap.ne,gh] at hn_gd
 have J3:=oj hn_g2 (oj hn_g4 (oj hn_g5 hn_gd))
 refine ySG J3 ?_
 refine aw_insNew (a:=0) (kv:=[]) (Kf:=keyI) (v:=.int .i64 0) rfl rfl rfl (kt:=3) (et:=3) (by kernel_rfl) ty_ki (zE J3) (zE J3) (zE J3) keyI_rep (cv:=.c (.int .i64 0)) (zE J3) (fun S w u h=>h) rfl (zE J3) ?_
 refine ySG J3 ?_
 refine aw_insNew (a:=1) (kv:=[(0,.int .i64 0)]) (Kf:=keyI) (v:=.int .i64 1) rfl rfl rfl (kt:=3) (et:=3) (by kernel_rfl) ty_ki (zE J3) (zE J3) (zE J3) keyI_rep (cv:=.c (.int .i64 1)) (zE J3) (fun S w u h=>h) rfl (zE J3) ?_
 refine ySG J3 ?_
 refine yA J3 fun g6 hn_g6=>?_
 have J4:=oj hn_g2 (oj hn_g4 (oj hn_g5 (oj hn_gd hn_g6)))
 refine yGWSG J4 ?_
 refine yA J4 fun g7 hn_g7=>?_
 have J5:=oj hn_g2 (oj hn_g4 (oj hn_g5 (oj hn_gd (oj hn_g6 hn_g7))))
 refine yG J5 ?_
 refine aw_makeFunc (gs:=[g6,g2,g7,g5]) rfl rfl rfl (zE J5) ?_
 refine ySGWSG J5 ?_
 refine aw_callhv (hr:=[(g4,.cells 31 3 (ofL [.nils,.nils,.int .i64 0]))]) (ewalk_fh (pl:=pl) g6 g2 g7 g5 gd gT gU gM hs hn o (r.toNat+1) r [] none [] om hr (ExOk.nil ns) (fun _=>rfl)) rfl rfl rfl (zE J5) ?hp (zL J5) ?_
 ·have e:HX g6 g2 g7 g5 gd gT gU gM og o pl ns mm o [] none []=X5 g6 g2 g7 g5 gd gT o [] none 0++THp gT gU gM og o pl ns mm:=List.append_nil _
  rw [e]
  refine((permL [(g7,_),(g6,_),(gd,_),(g5,_),(g4,_),(g2,_)] [0,1,2,3,4,5] [4,1,5,0,3,2] (by decide)).append_right (THp gT gU gM og o pl ns mm)).trans ?_
  exact(List.perm_append_singleton (g4,_) (X5 g6 g2 g7 g5 gd gT o [] none 0++THp gT gU gM og o pl ns mm)).symm
 rintro _ _ ⟨rs,oN,os,y,hex,hoN,rfl,rfl⟩ _
 unfold HX X5 THp TH
 simp only [List.cons_append,List.nil_append,List.append_assoc]
 refine ySGWS J5 ?_
 refine aw_keep [(4,.c (.optr g4 0)),(5,.c (.optr g5 0))] ((g5,.cells 31 3 (ofL [is true o,gs oN 3 os.length,.int .i64 y]))::([(gT,.cells 112 5 (ofL [is true o,is true pl,gs og 3 ns.length,.raw (.map (some gU)),.raw (.map (some gM))])),(gU,.gen (MapI dkV (uqTo ns 0))),(gM,.gen (MapI key3 (mmL mm)))]++(gh og 119 (ns.length*3) (dnsF ns)++(gh oN 119 (os.length*3) (dnsF os)++[(g4,.cells 31 3 (ofL [.nils,.nils,.int .i64 0]))])))) (zB J5) (List.Sublist.cons _ (List.Sublist.cons _ (List.Sublist.cons _ (List.Sublist.cons_cons _ (List.Sublist.cons _ (List.Sublist.refl _)))))) ?_
 refine aw_perm (List.Perm.cons _ (perm_ex _ _ _ _)) ?_
 refine aw_nd fun hnd=> ?_
 refine aw_frzG (j0:=1) (og:=oN) (s:=3) (n:=os.length) (f':=ofL [is true o,dns true os,.int .i64 y]) rfl rfl (fun j hj hne=> ?_) hoN (fun g e=> ?_) ?_
 ·match j,hj,hne with
  |0,_,_=>rfl
  |1,_,hne=>exact absurd rfl hne
  |2,_,_=>rfl
 ·subst e
  intro hown
  have hm:g∈Heap.keys (THp gT gU gM og o pl ns mm):=(hC g).1 hown
  have h1:(g5::g::g4::Heap.keys (THp gT gU gM og o pl ns mm)).Nodup:=hnd
  exact(List.nodup_cons.1 (List.nodup_cons.1 h1).2).1 (List.mem_cons_of_mem _ hm)
 clear hnd J1 J2 J3 J4 J5
 simp only [List.cons_append,List.nil_append]
 have J6:=oj hn_g2 (oj hn_g4 (oj hn_g5 (oj hn_gd (oj hn_g6 hn_g7))))
 refine ySGWSG J6 ?_
 refine aw_keep [(4,.c (.optr g4 0))] ((g4,.cells 31 3 (ofL (dgc true ⟨o,os,y⟩)))::THp gT gU gM og o pl ns mm) (zB J6) (List.Sublist.cons _ (List.Sublist.refl _)) ?_
 refine aw_rethw (h':=THp gT gU gM og o pl ns mm) rfl (List.Sublist.cons _ (List.Sublist.refl _)) (fun R hR=> ?_)
 simp only [go_sem,hn_g2,hn_g4,hn_g5,hn_gd,hn_g6,hn_g7]
 refine hR _ rfl ?_
 clear hR R
 exact⟨rs,os,y,hex,rfl,rfl⟩
end Go.Proofs.YtefekdejgbceiaaGreat
