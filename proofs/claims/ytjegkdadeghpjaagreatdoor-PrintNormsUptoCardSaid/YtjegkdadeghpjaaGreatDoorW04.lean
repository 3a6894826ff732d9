/- Parts of one proof, laid by a program. -/
import Derived.Test.YtjegkdadeghpjaaGreatDoorW00
import Derived.Test.YtjegkdadeghpjaaGreatDoorW03
import Derived.Test.YtjegkdadeghpjaaGreatDoorRows
import Derived.WalkKit
import Derived.ProofKit
import Derived.OpenShut
import Derived.JoinedCond
import Derived.Carry
import Derived.ShutString
import Derived.MapKept
import Derived.Laws.Cover3
import Derived.Lib.Bytealg
set_option linter.unusedSimpArgs false
set_option linter.unusedVariables false
set_option maxRecDepth 100000
set_option maxHeartbeats 12800000
namespace Go.Proofs.YtjegkdadeghpjaaGreatDoor
open Go.AI Go.PN Proofs.Tryz
attribute [local irreducible] aw Fa VA Vk Fh YO
attribute [local irreducible] nt
theorem Qrw (x s:Nat) (hs:s≤32):sU .u32 (x:Int) (s:Int)=((x*2^s%4294967296:Nat):Int):=by
 rw [xJ]
 have h1:min (s:Int).toNat IntKind.u32.bits=s:=by show min (s:Int).toNat 32=s;omega
 rw [h1,IntKind.wrap_u32,Int.natCast_emod,Int.natCast_mul,Int.natCast_pow];rfl
theorem Qrx (x y:Nat) (hx:x<4294967296) (hy:y<4294967296):uD .u32 (x:Int) (y:Int)=((x&&&y:Nat):Int):=by
 rw [B7]
 show IntKind.u32.wrap (((BitVec.ofInt 32 (x:Int)&&&BitVec.ofInt 32 (y:Int)).toNat:Nat):Int)=_
 have:(BitVec.ofInt 32 (x:Int)&&&BitVec.ofInt 32 (y:Int)).toNat=x&&&y:=by
  rw [BitVec.toNat_and]
  have e1:∀z:Nat,z<4294967296→(BitVec.ofInt 32 (z:Int)).toNat=z:=fun z hz=>by rw [BitVec.ofInt_natCast,BitVec.toNat_ofNat];omega
  rw [e1 x hx,e1 y hy]
 have aD:x&&&y<4294967296:=Nat.lt_of_le_of_lt Nat.and_le_left hx
 rw [this,IntKind.wrap_u32];omega
theorem SN (x:Nat) (hx:x<4294967296):uD .u32 (x:Int) 2147483648=((x&&&2147483648:Nat):Int):=Qrx x 2147483648 hx om
theorem Qt2 (xs:List Nat) (m j:Nat):xs.getD (m+j) 0=(xs.drop m).getD j 0:=by
 rw [Lg,Lg,List.getElem?_drop]
theorem SF (a b s:Nat):a*2^s/(b*2^s)=a/b:=Nat.mul_div_mul_right a b (Nat.two_pow_pos s)
theorem SG (a b s:Nat):a*2^s%(b*2^s)/2^s=a%b:=by
 rw [Nat.mul_mod_mul_right,Nat.mul_div_cancel _ (Nat.two_pow_pos s)]
theorem QoP (n:Nat):(fun j=>([CV.int .u32 0][j%1]?).getD .any)=wf (List.replicate n 0):=by
 funext j
 show _=CV.int .u32 ((List.replicate n 0).getD j 0:Nat)
 rw [Nat.mod_one,Lg,List.getElem?_replicate]
 split<;>rfl
theorem QoQ (xs:List Nat) (m:Nat):(CV.row true 1 (xs.length-m) fun j=>.int .u32 ((xs.getD (m+j) 0:Nat):Int))=ws true (xs.drop m):=by
 simp only [Qt2]
 show _=CV.row true 1 (xs.drop m).length _
 rw [List.length_drop]
theorem Qt3 (x:Nat) (rs:List Nat):∀j,Xs (ao [.int .u32 (x:Int)]) 1 (fun j=>.int .u32 ((rs.getD j 0:Nat):Int)) j=CV.int .u32 (((x::rs).getD j 0:Nat):Int)
 |0=>rfl
 |j+1=>by simp [Xs]
theorem w5 (xs ys:List Nat) (hx:∀x∈xs,x<4294967296) (hy:∀x∈ys,x<4294967296) (dp:xs.length≤34359738368) (dU:ys.length≤34359738368) (h0:val ys≠0):
  Fa prog 181 [.c (ws false xs),.c (ws false ys)] (.aF [.c (ws true (Qc (val xs/val ys))),.c (ws true (Qc (val xs%val ys))),.c (.int .i64 0)]):=by
 refine fA func181 fun C hC=>?_
 refine xG ?_
 refine xC (Y1 ys hy ?_) ?_
 ·omega
 generalize cQ:val ys=b at h0
 have kJ:(Qc b).length≤34359738368:=by rw [←cQ];exact Lt (QR ys hy) dU
 have ve:=Qp b
 obtain⟨n,hn⟩:∃n,(Qc b).length=n+1:=⟨(Qc b).length-1,by have:(Qc b).length≠0:=fun e=>h0 (Xb.1 (Lh.1 e));omega⟩
 have rY:(Qc b).getD n 0≠0:=by
  have:=(Kr b).resolve_left (fun e=>h0 (Xb.1 e))
  rwa [hn] at this
 have fO:=QI ve n
 refine xG ?_
 refine xF (fun hb=>?_) fun hb=>?_
 ·have:=eq_of_beq hb;omega
 refine xH ?_
 apply xz
 apply X5
 apply YW
 refine xH ?_
 apply X5
 refine Ym (fun s:Nat=>[(0,.c (ws false xs)),(1,.c (ws true (Qc b))),(7,.c (.int .i64 ((n+1:Nat):Int))),(8,.c (.int .i64 s))]) (fun _=>[]) (fun s=>(Qc b).getD n 0*2^s<4294967296∧s<32) ?_ ?_
 ·as_aux_lemma=>
  apply Zc
  have bZ:((Qc b).length:Int)=((n+1:Nat):Int):=by rw [hn]
  refine Qh (fun s:Nat=>[(0,.c (ws false xs)),(1,.c (ws true (Qc b))),(7,.c (.int .i64 ((n+1:Nat):Int))),(8,.c (.int .i64 s))]) (fun _=>[]) (fun s=>(Qc b).getD n 0*2^s<4294967296∧s<32) (fun s=>32-s) 0 (zB bZ) zZ ⟨by simpa using fO,by omega⟩ ?_
  rintro s ⟨dz,cu⟩
  have e1:=Qrw ((Qc b).getD n 0) s om
  rw [Nat.mod_eq_of_lt dz] at e1
  have e2:=SN _ dz
  have e3:(((n+1:Nat):Int)-1).toNat=n:=by omega
  have J1:=oj bZ (oj e1 (oj e2 e3))
  refine yG J1 ?_
  refine yF J1 (fun hc=>?_) fun hc=>?_
  ·have dv:(Qc b).getD n 0*2^s&&&2147483648=0:=by have:=eq_of_beq hc;omega
   have aD:=Sk dz dv
   have fN:s<31:=by
    rcases Nat.lt_or_ge s 31 with h|h
    ·exact h
    ·exfalso
     have h8:(2:Nat)^31≤2^s:=Nat.pow_le_pow_right om h
     have h9:=Nat.mul_le_mul (show 1≤(Qc b).getD n 0 by omega) h8
     omega
   refine yG J1 ?_
   refine Qb ⟨s+1,by omega,(zB J1),zZ,?_,by omega⟩
   rw [Nat.pow_succ,←Na];omega
  ·refine yG J1 ?_
   exact Qb ⟨s,(zB J1),zZ,dz,cu⟩
 as_aux_lemma=>
 rintro s ⟨dz,cu⟩
 have zk:=QmI hn dz
 refine xG ?_
 refine xC (M5 xs s hx ?_ cu) ?_
 ·omega
 refine xG ?_
 refine xC (M5 (Qc b) s ve ?_ cu) ?_
 ·omega
 rw [Qd]
 have rP:=(SF (val xs) b s).symm
 have jK:=(SG (val xs) b s).symm
 have rm:b*2^s≠0:=Nat.mul_ne_zero h0 (Nat.pos_iff_ne_zero.1 (Nat.two_pow_pos s))
 have Ps:(Qc (val xs*2^s)).length≤34359738369:=by
  have h0:(Qc (val xs*2^s)).length≤xs.length+1:=by
   refine XX ?_
   rw [Nat.pow_succ]
   have h2:2^s≤4294967296:=Uu om
   exact Ae (Nat.mul_lt_mul_of_pos_right (Z0 xs hx) (Nat.two_pow_pos s)) (Nat.mul_le_mul_left _ h2)
  omega
 rw [rP,jK]
 clear rP jK
 generalize hA:val xs*2^s=A at Ps⊢
 generalize hV:b*2^s=V at zk rm⊢
 have hn9:n≤34359738368:=by omega
 clear rY fO kJ ve dz hA hV cQ hb h0 hn
 have cV:0<V:=Nat.pos_of_ne_zero rm
 have za:=Qp A
 have zl:=Qp V
 have DS:4294967296^n≤V:=by have:=Fm rm;rwa [zk] at this
 have DR:V<4294967296^(n+1):=by have:=Yd V;rwa [zk] at this
 have uW:=Yd A
 generalize ia:(Qc A).length=la at Ps uW
 refine xH ?_
 apply X5
 refine QtP 13 Qg kR ?_
 repeat first|(refine Nd true rfl (fun R hR=> ?_);simp only [go_sem];(with_reducible refine hR _ _ ?_ ?_);(focus (((try simp only [XM])<;>and_intros<;>first|exact True.intro|omega|trivial);done));clear hR R)|fail
 refine Qrd rfl (Wu.make (n:=la) (c:=la) rfl rfl rfl Xp Xf rfl om eE eE (by rw [ia]) (by rw [ia]) om om om) kR ?_
 refine xS ?_
 refine wS (Z4.empty rfl rfl rfl Xp) ?_
 refine xS ?_
 have dH:(if((Qc A).length:Int)-((n+1:Nat):Int)+1>0 then((Qc A).length:Int)-((n+1:Nat):Int)+1 else 0)=((la-n:Nat):Int):=by rw [ia];split<;>omega
 repeat first|(refine Nd true rfl (fun R hR=> ?_);simp only [go_sem,dH];(with_reducible refine hR _ _ ?_ ?_);(focus (((try simp only [XM])<;>and_intros<;>first|exact True.intro|omega|trivial);done));clear hR R)|fail
 refine wS (Z4.copy rfl rfl rfl Xp Xf rfl om (zE dH) (zE dH) .row qc om) ?_
 refine yS dH ?_
 refine Qrc fun γ=> ?_
 refine yS dH ?_
 rw [QoP la]
 generalize γ 2=gq
 rw [QoQ]
 have tC:=QoO (Qc A) za (la-n) om
 rw [Qd] at tC
 have EE:A/4294967296^(la-n)<V:=by
  refine Ae ((Nat.div_lt_iff_lt_mul (CU _)).2 ?_) DS
  rw [←Nat.pow_add]
  exact Ae uW (Nat.pow_le_pow_right om om)
 have rS:∀x∈(Qc A).drop (la-n),x<4294967296:=fun x hx=>za x (List.mem_of_mem_drop hx)
 have kq:((Qc A).drop (la-n)).length≤n+1:=by rw [List.length_drop];omega
 generalize (Qc A).drop (la-n)=RN at tC rS kq⊢
 refine yG dH ?_
 refine Qh (fun x:Int×Nat×List Nat×List Nat=>[(0,.c (ws true (Qc A))),(1,.c (ws true (Qc V))),(7,.c (.int .i64 ((n+1:Nat):Int))),(8,.c (.int .i64 s)),(9,.c (.aO gq 1 0 la)),(10,.c (ws true x.2.2.1)),(11,.c (.int .i64 x.1))]) (fun x=>[(gq,.cells 180 la (wf x.2.2.2))])
  (fun x=>x.2.1=(x.1+1).toNat∧x.1<34359738370∧ -34359738370<x.1∧x.2.1≤la∧val x.2.2.1=A/4294967296^x.2.1%V∧(∀y∈x.2.2.1,y<4294967296)∧x.2.2.1.length≤n+1∧x.2.2.2.length=la∧(∀y∈x.2.2.2,y<4294967296)∧val (x.2.2.2.drop x.2.1)=A/4294967296^x.2.1/V) (fun x=>x.2.1) ((la:Int)-((n+1:Nat):Int),la-n,RN,List.replicate la 0) (zB dH) zZ
  ⟨by dsimp only;omega,by dsimp only;omega,by dsimp only;omega,by dsimp only;omega,by dsimp only;rw [tC,Nat.mod_eq_of_lt EE],rS,kq,by simp,YG _,by dsimp only;rw [Nat.div_eq_of_lt EE];exact Je fun x hx=>(List.mem_replicate.1 (List.mem_of_mem_drop hx)).2⟩ ?_
 clear tC EE rS kq
 clear RN
 as_aux_lemma=>
 rintro ⟨v,m,rs,qs⟩ ⟨hm,fJ,jr,tv,dy,rS,kq,fk,rR,zy⟩
 dsimp only at hm fJ jr tv dy rS kq fk rR zy⊢
 refine yG dH ?_
 refine yF dH (fun hb=>?_) fun hb=>?_
 ·have nM:0≤v:=of_decide_eq_true hb
  obtain⟨k,rfl⟩:∃k:Nat,v=k:=⟨v.toNat,by omega⟩
  have jI:m=k+1:=by omega
  subst jI
  have Ro:=Qrv (Qc A) za k
  rw [Qd] at Ro
  have hak:=QI za k
  obtain⟨E5,E6⟩:=QoN (A:=A) (m:=k) cV dy
  rw [Ro] at E5 E6
  apply xz
  apply X5
  apply Zc
  apply X5
  have hRl:((Qc A).getD k 0::rs).length≤n+2:=by simp;omega
  have DP:∀x∈(Qc A).getD k 0::rs,x<4294967296:=fun x hx=>by
   rcases Lb.1 hx with rfl|hx
   ·exact hak
   ·exact rS x hx
  refine Ym (fun _:Unit=>[(0,.c (ws true (Qc A))),(1,.c (ws true (Qc V))),(7,.c (.int .i64 ((n+1:Nat):Int))),(8,.c (.int .i64 s)),(9,.c (.aO gq 1 0 la)),(10,.c (ws true (Qc ((Qc A).getD k 0+4294967296*val rs)))),(11,.c (.int .i64 k))]) (fun _=>[(gq,.cells 180 la (wf qs))]) (fun _=>k<la) ?_ ?_
  ·as_aux_lemma=>
   apply YW
   refine yH dH ?_
   refine Qw (xs:=[.tmp 61]) (cells:=[.int .u32 ((Qc A).getD k 0:Nat)]) rfl rfl rfl Xp (by rw [l9,Xf];rfl) rfl om om qd (zE dH) fun g hg=> ?_
   replace hg:=Qa.ay hg
   dsimp only [Qa.ne] at hg
   have J2:=oj dH hg
   refine yS J2 ?_
   refine yH J2 ?_
   by_cases tC:0<rs.length
   ·refine YA rfl rfl rfl Xp Xf rfl om (zE J2) (zE J2) om (zE J2) .row (fun _ _=>rfl) tC qc om (zE J2) fun g' ch=> ?_
    replace ch:=Qa.ay ch
    dsimp only [Qa.ne] at ch
    have J3:=oj dH (oj hg ch)
    refine yS J3 ?_
    refine yH J3 ?_
    refine Qr (Y1 ((Qc A).getD k 0::rs) DP om) rfl rfl rfl (by refine yS J3 ?_;exact .c (Yi (zE J3) om (by simp;omega) (fun j _=>by rw [Nz];exact Qt3 _ _ j))) ?_
    refine yS J3 ?_
    refine yH J3 ?_
    exact Qb ⟨(),(zB J3),List.Sublist.cons _ (Lr _),by omega⟩
   ·have hrn:rs=[]:=Lh.1 om
    subst hrn
    refine Vm rfl rfl rfl Xp (zE J2) rfl (zE J2) .row (zE J2) ?_
    refine yS J2 ?_
    refine yH J2 ?_
    refine Qr (Y1 ((Qc A).getD k 0::[]) DP om) rfl rfl rfl (by refine yS J2 ?_;exact .c (Yi (zE J2) om rfl (fun j hj=>by match j,hj with|0,_=>rfl))) ?_
    refine yS J2 ?_
    refine yH J2 ?_
    exact Qb ⟨(),(zB J2),List.Sublist.cons _ (Lr _),by omega⟩
  as_aux_lemma=>
  rintro _ Eg
  have DM:val ((Qc A).getD k 0::rs)<V*4294967296:=by
   simp only [val]
   rw [dy]
   have:=Nat.mod_lt (A/4294967296^(k+1)) cV
   omega
  have PB:val ((Qc A).getD k 0::rs)=(Qc A).getD k 0+4294967296*val rs:=rfl
  rw [PB] at DM
  generalize hR:(Qc A).getD k 0+4294967296*val rs=R at E5 E6 DM⊢
  have u9:(Qc R).length≤n+2:=by
   rw [←hR,←PB];exact Lt (QR _ DP) hRl
  have ka:=Qp R
  have r8:=QI ka (n+1)
  have cZ:=QI ka n
  have hw3:=QI zl n
  have PD:(Qc V).getD n 0≠0:=by
   have:=(Kr V).resolve_left (fun e=>rm (Xb.1 e))
   rwa [zk] at this
  have pQ:R/V≤((Qc R).getD (n+1) 0*4294967296+(Qc R).getD n 0)/(Qc V).getD n 0:=by
   refine QmH (D:=4294967296^n) ?_ ?_ om cV
   ·have:=Qt0 (Qc R) ka n u9
    rwa [Qd] at this
   ·have:=Qt1 (Qc V) n
    rwa [Ly om,Qd] at this
  have jU:R/V≤4294967295:=by
   have:R/V<4294967296:=(Nat.div_lt_iff_lt_mul cV).2 (by rw [Nc];exact DM)
   omega
  have e3:(((n+1:Nat):Int)-1)=(n:Int):=by omega
  refine yG dH ?_
  refine yC dH (Yu (Qc R) (n+1) ka) ?_
  refine yG (oj dH e3) ?_
  refine yC (oj dH e3) (Yu (Qc R) n ka) ?_
  as_aux_lemma=>
  have e4:=Vo ((Qc R).getD (n+1) 0) r8
  have e5:=O0 ((Qc R).getD (n+1) 0) ((Qc R).getD n 0) r8 cZ
  have J4:=oj dH (oj e3 (oj e4 e5))
  refine yG J4 ?_
  as_aux_lemma=>
  refine yC J4 (Yu (Qc V) n zl) ?_
  have bp:kS ((Qc R).getD (n+1) 0) ((Qc R).getD n 0)<18446744073709551616:=by unfold kS;omega
  have e6:=Ca (kS ((Qc R).getD (n+1) 0) ((Qc R).getD n 0)) ((Qc V).getD n 0) bp
  replace pQ:R/V≤kS ((Qc R).getD (n+1) 0) ((Qc R).getD n 0)/(Qc V).getD n 0:=pQ
  have J5:=oj dH (oj e3 (oj e4 (oj e5 e6)))
  refine yO J5 ?_
  generalize kS ((Qc R).getD (n+1) 0) ((Qc R).getD n 0)/(Qc V).getD n 0=G at pQ⊢
  have e7:(if(4294967295:Int)<(G:Int) then(4294967295:Int) else(G:Int))=((min G 4294967295:Nat):Int):=by split<;>omega
  as_aux_lemma=>
  refine yO J5 ?_
  rw [e7]
  have bY:min G 4294967295<4294967296:=by omega
  replace pQ:R/V≤min G 4294967295:=by omega
  generalize min G 4294967295=g0 at bY pQ⊢
  have e8:Xz .u32 (g0:Int)=(g0:Int):=by rw [QL,Nat.mod_eq_of_lt bY]
  as_aux_lemma=>
  have J6:=oj dH (oj e3 (oj e4 (oj e5 (oj e6 e8))))
  refine yG J6 ?_
  as_aux_lemma=>
  refine Qw (xs:=[.tmp 83]) (cells:=[.int .u32 (g0:Nat)]) rfl rfl rfl Xp (by rw [l9,Xf];rfl) rfl om om qd (zE J6) fun g hg=> ?_
  replace hg:=Qa.ay hg
  dsimp only [Qa.ne] at hg
  have J7:=oj dH (oj e3 (oj e4 (oj e5 (oj e6 (oj e8 hg)))))
  refine Xw J7 ?_
  as_aux_lemma=>
  refine Qr (IV (Qc V) [g0] zl (by intro x hx;simp only [Lv] at hx;subst hx;exact bY) om (by simp)) rfl rfl rfl (by refine yS J7 ?_;exact⟨.c (Qve (by simp)),.c (Yi (zE J7) (by simp) rfl (fun j hj=>by match j,hj with|0,_=>rfl))⟩) ?_
  rw [Qd,LI]
  refine yS J7 ?_
  refine yH J7 ?_
  apply X5
  refine Ym (fun _:Unit=>[(0,.c (ws true (Qc A))),(1,.c (ws true (Qc V))),(7,.c (.int .i64 ((n+1:Nat):Int))),(8,.c (.int .i64 s)),(9,.c (.aO gq 1 0 la)),(10,.c (ws true (Qc R))),(11,.c (.int .i64 k)),(12,.c (.int .u64 (R/V:Nat))),(13,.c (ws true (Qc (V*(R/V)))))]) (fun _=>[(gq,.cells 180 la (wf qs))]) (fun _=>k<la) ?_ ?_
  ·as_aux_lemma=>
   apply Zc
   refine Qh (fun q:Nat=>[(0,.c (ws true (Qc A))),(1,.c (ws true (Qc V))),(7,.c (.int .i64 ((n+1:Nat):Int))),(8,.c (.int .i64 s)),(9,.c (.aO gq 1 0 la)),(10,.c (ws true (Qc R))),(11,.c (.int .i64 k)),(12,.c (.int .u64 q)),(13,.c (ws true (Qc (V*q))))]) (fun _=>[(gq,.cells 180 la (wf qs))]) (fun q=>R/V≤q∧q<4294967296) (fun q=>q) g0 (zB J7) (List.Sublist.cons _ (Lr _)) ⟨pQ,bY⟩ ?_
   rintro q ⟨rP,jK⟩
   have dJ:(Qc (V*q)).length≤34359738380:=by
    have h1:=XJ V q
    have h2:(Qc q).length≤2:=JJ om
    omega
   refine yG J7 ?_
   refine yC J7 (Ce (Qc (V*q)) (Qc R) (Qp _) ka ?_ ?_) ?_
   ·omega
   ·omega
   rw [Qd,Qd]
   refine yG J7 ?_
   refine yF J7 (fun hc=>?_) fun hc=>?_
   ·have fV:R<V*q:=by
     have:=of_decide_eq_true hc
     unfold Zs at this
     split at this
     ·omega
     ·split at this<;>omega
    have rO:R/V<q:=(Nat.div_lt_iff_lt_mul cV).2 (by rw [Nc];exact fV)
    have dV:V*q-V=V*(q-1):=by rw [Nat.mul_sub,Ad]
    have hq9:0<q:=Nat.lt_of_le_of_lt (Lz _) rO
    have eu:V≤V*q:=Nat.le_mul_of_pos_right _ hq9
    have e9:((q:Int)-1)=((q-1:Nat):Int):=by omega
    have J8:=oj dH (oj e3 (oj e4 (oj e5 (oj e6 (oj e8 (oj hg e9))))))
    refine yG J8 ?_
    refine yC J8 (Cf (Qc (V*q)) (Qc V) (Qp _) zl ?_ ?_ ?_) ?_
    ·omega
    ·omega
    ·rw [Qd,Qd];exact eu
    rw [Qd,Qd,dV]
    refine yG J8 ?_
    exact Qb ⟨q-1,by omega,(zB J8),zZ,Nat.le_sub_one_of_lt rO,by omega⟩
   ·have hle:V*q≤R:=by
     have:=of_decide_eq_false hc
     unfold Zs at this
     split at this
     ·omega
     ·split at this<;>omega
    have hqe:q=R/V:=Nat.le_antisymm ((Nat.le_div_iff_mul_le cV).2 (by rw [Nc];exact hle)) rP
    subst hqe
    refine yG J7 ?_
    exact Qb ⟨(),(zB J7),zZ,Eg⟩
  as_aux_lemma=>
  rintro _ _
  have hmd:=Nat.div_add_mod R V
  have Eo:=Nat.mod_lt R cV
  have dJ:(Qc (V*(R/V))).length≤n+2:=Lt (QK (Nat.mul_div_le R V)) u9
  refine yG J7 ?_
  refine yC J7 (Cf (Qc R) (Qc (V*(R/V))) ka (Qp _) ?_ ?_ ?_) ?_
  ·omega
  ·omega
  ·rw [Qd,Qd];omega
  rw [Qd,Qd,show R-V*(R/V)=R%V from by omega]
  have e8:Xz .u32 ((R/V:Nat):Int)=((R/V:Nat):Int):=by rw [QL,Nat.mod_eq_of_lt om]
  have J9:=oj dH (oj e3 (oj e4 (oj e5 (oj e6 (oj e8 (oj hg e8))))))
  refine yG J9 ?_
  refine yW J9 ?_
  refine yS J9 ?_
  rw [ZO om]
  refine yG J9 ?_
  have zz:(Qc (R%V)).length≤n+1:=XX (Nat.lt_trans Eo DR)
  refine Qb ⟨((k:Int)-1,k,Qc (R%V),qs.set k (R/V)),by dsimp only;omega,(zB J9),zZ,by dsimp only;omega,by dsimp only;omega,by dsimp only;omega,by dsimp only;omega,by dsimp only;rw [Qd,E5],Qp _,zz,by simpa using fk,KD rR om,?_⟩
  dsimp only
  rw [Sj om,zy,E6]
 ·have ie:m=0:=dF hb
  subst ie
  rw [List.drop_zero,Nat.pow_zero,Nat.div_one] at zy
  rw [Nat.pow_zero,Nat.div_one] at dy
  refine yG dH ?_
  refine Qr (Y1 qs rR om) rfl rfl rfl (by refine yS dH ?_;exact .c (Yi (zE dH) om om (fun j _=>by rw [Nz];rfl))) ?_
  refine Xw dH ?_
  refine yC dH (QoL rs s rS ?_ cu) ?_
  ·omega
  refine OZ hC dH ?_
  rw [zy,dy]
  exact .aF ⟨.c QZ,.c QZ,.c (.int _ _),trivial⟩
theorem IW (xs ys:List Nat) (hx:∀x∈xs,x<4294967296) (hy:∀x∈ys,x<4294967296) (dp:xs.length≤34359738368) (dU:ys.length≤34359738368):
  Fa prog 260 [.c (ws false xs),.c (ws false ys)] (.c (ws true (Qc (Nat.gcd (val xs) (val ys))))):=by
 refine fA func260 fun C hC=>?_
 refine xG ?_
 refine xC (Y1 xs hx ?_) ?_
 ·omega
 refine xG ?_
 refine xC (Y1 ys hy ?_) ?_
 ·omega
 have ia:(Qc (val xs)).length≤34359738368:=Lt (QR xs hx) dp
 have iI:(Qc (val ys)).length≤34359738368:=Lt (QR ys hy) dU
 refine xI ?_
 apply Zc
 refine Qh (fun x:Nat×Nat=>[(0,.c (ws true (Qc x.1))),(1,.c (ws true (Qc x.2)))]) (fun _=>[]) (fun x=>(Qc x.1).length≤34359738368∧(Qc x.2).length≤34359738368∧Nat.gcd x.1 x.2=Nat.gcd (val xs) (val ys)) (fun x=>x.2) (val xs,val ys) eB zZ ⟨ia,iI,rfl⟩ ?_
 rintro ⟨a,b⟩ ⟨ia,iI,hg⟩
 dsimp only at ia iI hg⊢
 refine xG ?_
 refine xF (fun hb=>?_) fun hb=>?_
 ·have cQ:b≠0:=fun e=>by have:=of_decide_eq_true hb;rw [e,QA] at this;simp at this
  refine xG ?_
  refine xC (w5 (Qc a) (Qc b) (Qp a) (Qp b) ia iI ?_) ?_
  ·rw [Qd];exact cQ
  rw [Qd,Qd]
  refine xG ?_
  have aD:a%b<b:=Nat.mod_lt _ (Nat.pos_of_ne_zero cQ)
  refine Qb ⟨(b,a%b),aD,eB,zZ,iI,Lt (QK (Ll aD)) iI,?_⟩
  dsimp only
  rw [←hg,Nat.gcd_comm a b,Nat.gcd_rec b a,Nat.gcd_comm]
 ·have cQ:b=0:=by
   have:=of_decide_eq_false hb
   exact Xb.1 (Lh.1 om)
  subst cQ
  refine eS hC ?_
  rw [←hg,Nat.gcd_zero_right]
  exact .one (.c QZ)
theorem TM {n:Nat}:((QX n:Int)==1)=decide (n=1):=by
 rw [Bool.eq_iff_iff]
 simp only [beq_iff_eq,Dq]
 unfold QX
 constructor
 ·intro h
  split at h
  ·omega
  ·rename_i h0
   have h1:Nat.log2 n=0:=by omega
   have h2:=(Nat.log2_lt h0 (k:=1)).1 om
   omega
 ·intro h;subst h;rfl
theorem CP {xs:List Nat} (h:xs.length≠0):((xs.length:Int)==0)=false:=by
 rw [beq_eq_false_iff_ne];omega
theorem CQ {xs:List Nat} (h:xs.length=0):((xs.length:Int)==0)=true:=by rw [h];rfl
theorem Bj (r:RD) (hw:r.wf 34359738368):Fa prog 142 [.agg (YS r)] (.c (.bool r.valid)):=by
 have jW:=hw.2.2.1
 have gV:=hw.2.2.2
 refine fA func142 fun C hC=>?_
 refine xG ?_
 refine xB fun g1 ah=>?_
 refine yG ah ?_
 refine Xl 8 Qg kR ?_
 refine yG ah ?_
 by_cases hn:r.num.length=0
 ·have cb:=CQ hn
  by_cases hd:r.den.length=0
  ·have iX:=CQ hd
   have J1:=oj ah (oj cb iX)
   refine yG J1 ?_
   refine yP J1 ?_
   refine OZ hC J1 ?_
   exact .one (.c (Qe (FV cb iX)))
  ·have iX:=CP hd
   have J2:=oj ah (oj cb iX)
   refine yG J2 ?_
   refine yP J2 ?_
   refine OZ hC J2 ?_
   refine .one (.c (Qe ?_))
   rw [U7 (.inr iX),BO om,Bool.false_and,Bool.false_and]
 ·have cb:=CP hn
  by_cases hd:r.den.length=0
  ·have iX:=CQ hd
   have J3:=oj ah (oj cb iX)
   refine yG J3 ?_
   refine yP J3 ?_
   refine OZ hC J3 ?_
   refine .one (.c (Qe ?_))
   rw [U7 (.inl cb),BO (xs:=r.den) om,Bool.and_false,Bool.false_and]
  ·have iX:=CP hd
   have J4:=oj ah (oj cb iX)
   refine yG J4 ?_
   refine yN J4 ?_
   refine yG J4 ?_
   rw [U7 (.inl cb),BN (xs:=r.num) om,BN (xs:=r.den) om]
   refine YF 35 (zE (oj ah (oj cb iX))) (fun h1=> ?_) (fun h1=> ?_)<;>refine yS (oj ah (oj cb iX)) ?_
   ·have J5:=oj ah (oj cb iX)
    refine yG J5 ?_
    refine YF 44 (zE J5) (fun h2=> ?_) (fun h2=> ?_)<;>refine yS J5 ?_
    ·refine yG J5 ?_
     refine yC J5 (IW _ _ hw.1 hw.2.1 ?_ ?_) ?_
     ·omega
     ·omega
     refine yG J5 ?_
     have hg:(Qc (Nat.gcd (val r.num) (val r.den))).length≤68719476736:=by
      by_cases h:val r.num=0
      ·rw [h,Nat.gcd_zero_left];have:=QR _ hw.2.1;omega
      ·have h3:=QK (Nat.gcd_le_left (val r.den) (Nat.pos_of_ne_zero h));have:=QR _ hw.1;omega
     refine yC J5 (BP _ (Qp _) hg) ?_
     rw [Qd]
     refine OZ hC J5 ?_
     refine .one (.c (Qe ?_))
     rw [h1,h2,TM];rfl
    ·refine OZ hC J5 ?_
     refine .one (.c (Qe ?_))
     rw [h2,Bool.and_false,Bool.false_and]
   ·refine OZ hC (oj ah (oj cb iX)) ?_
    refine .one (.c (Qe ?_))
    rw [h1,Bool.false_and,Bool.false_and]
theorem IX {h:Qa} {t:Bool} {g:Nat} {ty:TypeId} (hg:h.get g=some (.cells ty 1 (ao [.int .u32 1]))):JU h (.aO g 1 0 1) (ws t [1]):=
 VC hg om rfl (fun j hj=>by match j,hj with|0,_=>rfl)
theorem Uw (r:RD) (hw:r.wf 1073741824):Fa prog 114 [.agg (YS r)] (Cd r):=by
 refine fA func114 fun C hC=>?_
 refine xG ?_
 refine xB fun g1 ah=>?_
 refine yG ah ?_
 refine yC ah (Bj r (XZ hw ?_)) ?_
 ·omega
 refine yG ah ?_
 refine YF 8 (zE ah) (fun hv=> ?_) (fun hv=> ?_)<;>refine yS ah ?_
 ·have hs:=RD.eQ (wY (r:=r) (.inl (by simpa using hv)))
  refine yG ah ?_
  refine yP ah ?_
  refine yG ah ?_
  refine Qw (xs:=[.const (.int .u32 1)]) (cells:=[.int .u32 1]) rfl rfl rfl Xp (by rw [l9,Xf];rfl) rfl om om (by intro x hx;simp only [Lb,Lj,or_false] at hx;subst hx;exact⟨rfl,rfl,rfl⟩) rfl fun g hg=> ?_
  replace hg:=Qa.ay hg
  dsimp only [Qa.ne] at hg
  have J1:=oj ah hg
  refine mc hC J1 ?_
  refine .aF ⟨.c (Qe hs.2.2.symm),.c ?_,.c ?_,trivial⟩
  ·rw [hs.1];exact .ab
  ·rw [hs.2.1];exact IX (zE J1)
 ·have kx:r.valid=true:=by simpa using hv
  refine yG ah ?_
  refine yF ah (fun hn=>?_) fun hn=>?_
  ·have hs:=RD.eQ (wY (r:=r) (.inr hn))
   refine yG ah ?_
   refine Qw (xs:=[.const (.int .u32 1)]) (cells:=[.int .u32 1]) rfl rfl rfl Xp (by rw [l9,Xf];rfl) rfl om om (by intro x hx;simp only [Lb,Lj,or_false] at hx;subst hx;exact⟨rfl,rfl,rfl⟩) rfl fun g hg=> ?_
   replace hg:=Qa.ay hg
   dsimp only [Qa.ne] at hg
   have J2:=oj ah hg
   refine mc hC J2 ?_
   refine .aF ⟨.c (Qe hs.2.2.symm),.c ?_,.c ?_,trivial⟩
   ·rw [hs.1];exact .ab
   ·rw [hs.2.1];exact IX (zE J2)
  ·have hs:=RD.gJ hw (IQ kx hn)
   refine yG ah ?_
   refine Xl 9 Qg kR ?_
   refine OZ hC ah ?_
   refine .aF ⟨.c (Qe hs.2.2.symm),.c ?_,.c ?_,trivial⟩
   ·rw [hs.1];exact QZ
   ·rw [hs.2.1];exact QZ
theorem Hu (neg:Bool) (xs ys:List Nat) (hx:∀x∈xs,x<4294967296) (hy:∀x∈ys,x<4294967296) (dp:xs.length≤34359738368) (dU:ys.length≤34359738368) (h0:val ys≠0):
  Fa prog 336 [.c (.bool neg),.c (ws false xs),.c (ws false ys)] (.aF [.agg (YS (rd (sq neg (val xs) (val ys)))),.c (.int .i64 0)]):=by
 refine fA func336 fun C hC=>?_
 refine xG ?_
 refine xA fun g6 aJ=>?_
 refine yG aJ ?_
 refine yC aJ (BP ys hy ?_) ?_
 ·omega
 refine yG aJ ?_
 refine yF aJ (fun hb=>?_) fun hb=>?_
 ·exact absurd (JG.1 (by have:=eq_of_beq hb;omega)) h0
 refine yG aJ ?_
 refine yC aJ (BP xs hx ?_) ?_
 ·omega
 refine yG aJ ?_
 refine yF aJ (fun hc=>?_) fun hc=>?_
 ·have hz:val xs=0:=JG.1 (by have:=eq_of_beq hc;omega)
  refine V8 hC aJ ?_
  rw [hz,ui,dQ]
  exact .aF ⟨.agg ⟨.bool _,.ab,.ab,trivial⟩,.c (.int _ _),trivial⟩
 ·have hz:val xs≠0:=fun e=>by rw [e] at hc;cases hc
  have hg:Nat.gcd (val xs) (val ys)≠0:=fun e=>h0 (Nat.eq_zero_of_gcd_eq_zero_right e)
  have bY:(Qc (Nat.gcd (val xs) (val ys))).length≤34359738368:=by
   have h3:=QK (Nat.gcd_le_left (val ys) (Nat.pos_of_ne_zero hz));have:=QR _ hx;omega
  refine yG aJ ?_
  refine yC aJ (IW xs ys hx hy dp dU) ?_
  refine yG aJ ?_
  refine yC aJ (w5 xs (Qc (Nat.gcd (val xs) (val ys))) hx (Qp _) dp bY ?_) ?_
  ·rw [Qd];exact hg
  rw [Qd]
  refine yG aJ ?_
  refine yC aJ (w5 ys (Qc (Nat.gcd (val xs) (val ys))) hy (Qp _) dU bY ?_) ?_
  ·rw [Qd];exact hg
  rw [Qd]
  refine V8 hC aJ ?_
  rw [CT hz h0]
  exact .aF ⟨.agg ⟨.bool _,QZ,QZ,trivial⟩,.c (.int _ _),trivial⟩
theorem xL (neg:Bool) (n d:Nat) (hn:(Qc n).length≤34359738368) (hd:(Qc d).length≤34359738368) (h0:d≠0):
  Fa prog 336 [.c (.bool neg),.c (ws false (Qc n)),.c (ws false (Qc d))] (.aF [.agg (YS (rd (sq neg n d))),.c (.int .i64 0)]):=by
 have:=Hu neg (Qc n) (Qc d) (Qp n) (Qp d) hn hd (by rw [Qd];exact h0)
 rwa [Qd,Qd] at this
def two (u:Nat):List Nat:=[u%4294967296,u/4294967296]
theorem B4 (u:Nat):val (two u)=u:=by simp only [two,val];omega
theorem M6 {u:Nat} (h:u<18446744073709551616):∀x∈two u,x<4294967296:=fun x hx=>by
 simp only [two,Lb,Lj,or_false] at hx
 rcases hx with rfl|rfl<;>omega
theorem Sm {n:Int} (h0: -9223372036854775808≤n) (h1:n<0):Xz .u64 (0-Xz .u64 n)=(n.natAbs:Int):=by
 rw [QM,QM,IntKind.wrap_u64,IntKind.wrap_u64];omega
theorem Sn {n:Int} (h0:0≤n) (h1:n≤9223372036854775807):Xz .u64 n=(n.natAbs:Int):=by
 rw [QM,IntKind.wrap_u64];omega
theorem Hv (n:Int) (h0: -9223372036854775808≤n) (h1:n≤9223372036854775807):Fa prog 337 [.c (.int .i64 n)] (.c (ws true (two n.natAbs))):=by
 refine fA func337 fun C hC=>?_
 apply X5
 apply YW
 refine xH ?_
 apply X5
 apply YW
 refine xH ?_
 apply X5
 refine Ym (fun _:Unit=>[(3,.c (.int .u64 n.natAbs))]) (fun _=>[]) (fun _=>n≤9223372036854775807) ?_ ?_
 ·refine xG ?_
  refine xF (fun hb=>?_) fun hb=>?_
  ·have hn:n<0:=of_decide_eq_true hb
   have e1:=Sm h0 hn
   refine yG e1 ?_
   exact Qb ⟨(),(zB e1),zZ,h1⟩
  ·have hn:0≤n:=dF hb
   have e1:=Sn hn h1
   refine yG e1 ?_
   exact Qb ⟨(),(zB e1),zZ,h1⟩
 rintro _ _
 have hu:n.natAbs<18446744073709551616:=by omega
 generalize n.natAbs=u at hu⊢
 have e1:=QL u
 have e2:=U3 u
 have e3:Xz .u32 ((u/4294967296:Nat):Int)=((u/4294967296:Nat):Int):=by rw [QL,Nat.mod_eq_of_lt om]
 have J1:=oj e1 (oj e2 e3)
 refine yG J1 ?_
 refine Qw (xs:=[.tmp 11,.tmp 14]) (cells:=[.int .u32 (u%4294967296:Nat),.int .u32 (u/4294967296:Nat)]) rfl rfl rfl Xp (by rw [l9,Xf];rfl) rfl om om (by intro x hx;simp only [Lb,Lj,or_false] at hx;rcases hx with rfl|rfl<;>exact⟨rfl,rfl,rfl⟩) rfl fun g hg=> ?_
 refine mc hC J1 ?_
 exact .one (.c (VC (zE J1) (by simp) rfl (fun j hj=>by match j,hj with|0,_=>rfl|1,_=>rfl)))
theorem Hw (d:Rat):(-d)⁻¹= -d⁻¹:=by
 by_cases h:d=0
 ·subst h;rw [Rat.neg_zero,Rat.inv_zero,Rat.neg_zero]
 ·have h1:d*d⁻¹=1:=Rat.mul_inv_cancel d h
  have h2:(-d)*(-d)⁻¹=1:=Rat.mul_inv_cancel (-d) (by grind)
  grind
theorem Qry (n d:Int):sq (decide (n<0) !=decide (d<0)) n.natAbs d.natAbs=(n:Rat)/(d:Rat):=by
 have e:∀m:Int,((m.natAbs:Int)=m∧¬m<0)∨((m.natAbs:Int)= -m∧m<0):=fun m=>by omega
 unfold sq
 rw [Rat.mkRat_eq_div]
 have hs:((Uc (decide (n<0) !=decide (d<0)) n.natAbs:Int):Rat)/((d.natAbs:Nat):Rat)=(n:Rat)/(d:Rat):=by
  have hd:((d.natAbs:Nat):Rat)=((d.natAbs:Int):Rat):=rfl
  rw [hd]
  unfold Uc
  rcases e n with ⟨h1,h2⟩|⟨h1,h2⟩<;>rcases e d with ⟨h3,h4⟩|⟨h3,h4⟩
  ·simp only [h2,h4,decide_false,bne_self_eq_false,Bool.false_eq_true,if_false,h1,h3]
  ·simp only [h2,h4,decide_false,decide_true,bne,h1,h3]
   simp only [show(false==true)=false from rfl,Bool.not_false,if_true]
   rw [Rat.intCast_neg,Rat.intCast_neg,Rat.div_def,Rat.div_def,Hw]
   grind
  ·simp only [h2,h4,decide_false,decide_true,bne,h1,h3]
   simp only [show(true==false)=false from rfl,Bool.not_false,if_true]
   rw [Int.neg_neg]
  ·simp only [h2,h4,decide_true,bne_self_eq_false,Bool.false_eq_true,if_false,h1,h3]
   rw [Rat.intCast_neg,Rat.intCast_neg,Rat.div_def,Rat.div_def,Hw]
   grind
 exact hs
theorem QoS (n d:Int) (h0: -9223372036854775808≤n) (h1:n≤9223372036854775807) (h2: -9223372036854775808≤d) (h3:d≤9223372036854775807) (hd:d≠0):
  Fa prog 262 [.c (.int .i64 n),.c (.int .i64 d)] (.aF [.agg (YS (rd ((n:Rat)/(d:Rat)))),.c (.int .i64 0)]):=by
 refine fA func262 fun C hC=>?_
 refine xG ?_
 refine xA fun g4 aC=>?_
 refine yG aC ?_
 refine yC aC (Hv n h0 h1) ?_
 refine yG aC ?_
 refine yC aC (Hv d h2 h3) ?_
 refine yG aC ?_
 refine yC aC (Hu _ (two n.natAbs) (two d.natAbs) (M6 ?_) (M6 ?_) ?_ ?_ ?_) ?_
 ·omega
 ·omega
 ·simp [two]
 ·simp [two]
 ·rw [B4];omega
 rw [B4,B4,Qry]
 refine V8 hC aC ?_
 exact .aF ⟨.agg JI,.c (.int _ _),trivial⟩
theorem Qt4 (n:Int) (h0: -9223372036854775808≤n) (h1:n≤9223372036854775807):Fa prog 145 [.c (.int .i64 n)] (.agg (YS (rd (n:Rat)))):=by
 refine fA func145 fun C hC=>?_
 refine xG ?_
 refine xA fun g2 aq=>?_
 refine yG aq ?_
 refine yC aq (QoS n 1 h0 h1 ?_ ?_ ?_) ?_
 ·omega
 ·omega
 ·omega
 refine yG aq ?_
 refine yA aq fun g3 av=>?_
 have J1:=oj aq av
 refine yG J1 ?_
 refine yW J1 ?_
 refine Xw J1 ?_
 refine yW J1 ?_
 refine mc hC J1 ?_
 exact Jg (by congr 1;rw [Rat.intCast_one];grind)
theorem Qrz (r:RD) (hw:r.wf 1073741824):Fa prog 335 [.agg (YS r)] (.agg (YS (rd (-r.q)))):=by
 obtain⟨jW,gV⟩:=RD.cL hw om
 refine fA func335 fun C hC=>?_
 refine xG ?_
 refine xB fun g1 ah=>?_
 refine yA ah fun g2 aq=>?_
 have J1:=oj ah aq
 refine yG J1 ?_
 refine yC J1 (Uw r hw) ?_
 refine yG J1 ?_
 refine yC J1 (xL _ r.pn r.pd ?_ ?_ (RD.cM hw)) ?_
 ·omega
 ·omega
 refine yG J1 ?_
 refine yA J1 fun g6 aJ=>?_
 have J2:=oj ah (oj aq aJ)
 refine yG J2 ?_
 refine yW J2 ?_
 refine Xw J2 ?_
 refine yW J2 ?_
 refine mc hC J2 ?_
 exact Jg (by rw [QtX];rfl)
theorem BQ (r:RD) (hw:r.wf 1073741824):Fa prog 143 [.agg (YS r)] (.c (.int .i64 (YZ r.q))):=by
 refine fA func143 fun C hC=>?_
 refine xG ?_
 refine xB fun g1 ah=>?_
 refine yG ah ?_
 refine yC ah (Uw r hw) ?_
 refine yG ah ?_
 refine yF ah (fun hb=>?_) fun hb=>?_
 ·refine OZ hC ah ?_
  exact .one (.c (Qn (sign_zero hw hb)))
 ·refine yG ah ?_
  refine yF ah (fun hp=>?_) fun hp=>?_
  ·refine OZ hC ah ?_
   refine .one (.c (Qn ?_))
   rw [Oj hw hb,hp];rfl
  ·refine OZ hC ah ?_
   refine .one (.c (Qn ?_))
   rw [Oj hw hb,hp];rfl
theorem CX (a b:Nat) (ha:(Qc a).length≤68719476736) (hb:(Qc b).length≤68719476736):Fa prog 291 [.c (ws false (Qc a)),.c (ws false (Qc b))] (.c (ws true (Qc (a*b)))):=by
 have:=IV (Qc a) (Qc b) (Qp a) (Qp b) ha hb
 rwa [Qd,Qd] at this
theorem Qvx (a b:Nat) (ha:(Qc a).length≤68719476736) (hb:(Qc b).length≤68719476736):Fa prog 364 [.c (ws false (Qc a)),.c (ws false (Qc b))] (.c (ws true (Qc (a+b)))):=by
 have:=Qrs (Qc a) (Qc b) (Qp a) (Qp b) ha hb
 rwa [Qd,Qd] at this
theorem NN (a b:Nat) (ha:(Qc a).length≤68719476736) (hb:(Qc b).length≤68719476736) (h:b≤a):Fa prog 292 [.c (ws false (Qc a)),.c (ws false (Qc b))] (.aF [.c (ws true (Qc (a-b))),.c (.int .i64 0)]):=by
 have:=Cf (Qc a) (Qc b) (Qp a) (Qp b) ha hb (by rw [Qd,Qd];exact h)
 rwa [Qd,Qd] at this
theorem NO (a b:Nat) (ha:(Qc a).length≤68719476736) (hb:(Qc b).length≤68719476736):Fa prog 116 [.c (ws false (Qc a)),.c (ws false (Qc b))] (.c (.int .i64 (Zs a b))):=by
 have:=Ce (Qc a) (Qc b) (Qp a) (Qp b) ha hb
 rwa [Qd,Qd] at this
theorem QrA (a b:RD) (ha:a.wf 1073741824) (hb:b.wf 1073741824):Fa prog 334 [.agg (YS a),.agg (YS b)] (.agg (YS (rd (a.q+b.q)))):=by
 obtain⟨l1,l2⟩:=RD.cL ha om
 obtain⟨l3,l4⟩:=RD.cL hb om
 have d1:=RD.cM ha
 have d2:=RD.cM hb
 have dd:a.pd*b.pd≠0:=Nat.mul_ne_zero d1 d2
 have m1:=XJ a.pn b.pd
 have m2:=XJ b.pn a.pd
 have m3:=XJ a.pd b.pd
 have m4:=OG (m:=a.pn*b.pd) (n:=b.pn*a.pd) (k:=2147483648) om om
 refine fA func334 fun C hC=>?_
 refine xG ?_
 refine xB fun g2 aq=>?_
 refine yB aq fun g3 av=>?_
 refine yA (oj aq av) fun g4 aC=>?_
 have J1:=oj aq (oj av aC)
 refine yG J1 ?_
 refine yC J1 (Uw a ha) ?_
 refine yG J1 ?_
 refine yC J1 (Uw b hb) ?_
 refine yG J1 ?_
 refine yC J1 (CX a.pn b.pd ?_ ?_) ?_
 ·omega
 ·omega
 refine yG J1 ?_
 refine yC J1 (CX b.pn a.pd ?_ ?_) ?_
 ·omega
 ·omega
 refine yG J1 ?_
 refine yC J1 (CX a.pd b.pd ?_ ?_) ?_
 ·omega
 ·omega
 refine yG J1 ?_
 refine yF J1 (fun hs=>?_) fun hs=>?_
 ·have eM:a.ps=b.ps:=eq_of_beq hs
  refine yG J1 ?_
  refine yC J1 (Qvx _ _ ?_ ?_) ?_
  ·omega
  ·omega
  refine yG J1 ?_
  refine yC J1 (xL _ _ _ ?_ ?_ dd) ?_
  ·omega
  ·omega
  refine yG J1 ?_
  refine yA J1 fun g14 jM=>?_
  have J2:=oj aq (oj av (oj aC jM))
  refine yG J2 ?_
  refine yW J2 ?_
  refine Xw J2 ?_
  refine yW J2 ?_
  refine mc hC J2 ?_
  refine Jg ?_
  rw [FC _ d1 d2]
  unfold RD.q;rw [eM]
 ·have eM:b.ps= !a.ps:=FW hs
  refine yG J1 ?_
  refine yC J1 (NO _ _ ?_ ?_) ?_
  ·omega
  ·omega
  refine yG J1 ?_
  refine yF J1 (fun hc=>?_) fun hc=>?_
  ·have hle:a.pn*b.pd≤b.pn*a.pd:=by
    have:=of_decide_eq_true hc
    unfold Zs at this
    split at this
    ·omega
    ·split at this<;>omega
   have Ei:=QK (Nat.sub_le (b.pn*a.pd) (a.pn*b.pd))
   refine yG J1 ?_
   refine yC J1 (NN _ _ ?_ ?_ hle) ?_
   ·omega
   ·omega
   refine yG J1 ?_
   refine yC J1 (xL _ _ _ ?_ ?_ dd) ?_
   ·omega
   ·omega
   refine yG J1 ?_
   refine yA J1 fun g18 si=>?_
   have J3:=oj aq (oj av (oj aC si))
   refine yG J3 ?_
   refine yW J3 ?_
   refine Xw J3 ?_
   refine yW J3 ?_
   refine mc hC J3 ?_
   refine Jg ?_
   rw [eM,Gj _ d1 d2 hle]
   unfold RD.q;rw [eM]
  ·have hle:b.pn*a.pd≤a.pn*b.pd:=by
    have:=of_decide_eq_false hc
    unfold Zs at this
    split at this
    ·omega
    ·omega
   have Ei:=QK (Nat.sub_le (a.pn*b.pd) (b.pn*a.pd))
   refine yG J1 ?_
   refine yC J1 (NN _ _ ?_ ?_ hle) ?_
   ·omega
   ·omega
   refine yG J1 ?_
   refine yC J1 (xL _ _ _ ?_ ?_ dd) ?_
   ·omega
   ·omega
   refine yG J1 ?_
   refine yA J1 fun g18 si=>?_
   have J4:=oj aq (oj av (oj aC si))
   refine yG J4 ?_
   refine yW J4 ?_
   refine Xw J4 ?_
   refine yW J4 ?_
   refine mc hC J4 ?_
   refine Jg ?_
   rw [Bh _ d1 d2 hle]
   unfold RD.q;rw [eM]
theorem QrB (a b:RD) (ha:a.wf 1073741824) (hb:b.wf 1073741824):Fa prog 261 [.agg (YS a),.agg (YS b)] (.agg (YS (rd (a.q-b.q)))):=by
 refine fA func261 fun C hC=>?_
 refine xG ?_
 refine xB fun g2 aq=>?_
 refine yB aq fun g3 av=>?_
 refine yA (oj aq av) fun g4 aC=>?_
 have J1:=oj aq (oj av aC)
 refine yG J1 ?_
 refine Xl 4 Qg kR ?_
 refine yG J1 ?_
 refine yD J1 (Qrz b hb) ?_
 refine yG J1 ?_
 refine yD J1 (QrA a (rd (-b.q)) ha (QtZ hb)) ?_
 refine V8 hC J1 ?_
 exact Jg (by rw [Wv,Rat.sub_eq_add_neg])
theorem Qt5 {a b:RD} {L:Nat} (hL:1≤L) (ha:a.wf L) (hb:b.wf L) (h:2*L+1≤1073741824):(rd (a.q-b.q)).wf 1073741824:=
 JH (Yp (QoD (RD.fits ha hL) (RD.fits hb hL)) om)
theorem QrC (a b:RD) (ha:a.wf 500000000) (hb:b.wf 500000000):Fa prog 144 [.agg (YS a),.agg (YS b)] (.c (.int .i64 (YZ (a.q-b.q)))):=by
 refine fA func144 fun C hC=>?_
 refine xG ?_
 refine xB fun g2 aq=>?_
 refine yB aq fun g3 av=>?_
 have J1:=oj aq av
 refine yG J1 ?_
 refine yC J1 (QrB a b (XZ ha ?_) (XZ hb ?_)) ?_
 ·omega
 ·omega
 refine yG J1 ?_
 refine yC J1 (BQ _ ?_) ?_
 ·exact Qt5 om ha hb om
 rw [Wv]
 refine OZ hC J1 ?_
 exact .one (.c (.int _ _))
end Go.Proofs.YtjegkdadeghpjaaGreatDoor
namespace Go.AI
open Go.PN
def gD (xs:List Int) (j:Nat):CV:=.int .i64 (xs.getD j 0)
@[go_sem] theorem QwC (xs:List Int) (j:Nat):gD xs j=.int .i64 (xs.getD j 0):=rfl
abbrev is (t:Bool) (xs:List Int):CV:=.row t 1 xs.length (gD xs)
def mB (xs:List Bool) (j:Nat):CV:=.bool (xs.getD j false)
@[go_sem] theorem QwD (xs:List Bool) (j:Nat):mB xs j=.bool (xs.getD j false):=rfl
abbrev bs (t:Bool) (xs:List Bool):CV:=.row t 1 xs.length (mB xs)
def aW:RD:=⟨false,[],[]⟩
def Z6 (ps:List RD):Nat→CV:=lf 3 (fun r:RD=>[CV.bool r.neg,ws true r.num,ws true r.den]) aW ps
@[go_sem] theorem Qwq (ps:List RD) (i:Nat):Z6 ps (i*3)=.bool (ps.getD i aW).neg:=by
  have:=Q9 (s:=3) (c:=fun r:RD=>[CV.bool r.neg,ws true r.num,ws true r.den]) (d:=aW) (xs:=ps) (i:=i) (k:=0) om
  exact this
@[go_sem] theorem Qwr (ps:List RD) (i:Nat):Z6 ps (i*3+1)=ws true (ps.getD i aW).num:=by
  have:=Q9 (s:=3) (c:=fun r:RD=>[CV.bool r.neg,ws true r.num,ws true r.den]) (d:=aW) (xs:=ps) (i:=i) (k:=1) om
  exact this
@[go_sem] theorem Qws (ps:List RD) (i:Nat):Z6 ps (i*3+2)=ws true (ps.getD i aW).den:=by
  have:=Q9 (s:=3) (c:=fun r:RD=>[CV.bool r.neg,ws true r.num,ws true r.den]) (d:=aW) (xs:=ps) (i:=i) (k:=2) om
  exact this
abbrev OB (t:Bool) (ps:List RD):CV:=.row t 3 ps.length (Z6 ps)
structure DN where
 v:Int
 lo:Int
 hi:Int
 deriving DecidableEq
def qV:DN:=⟨0,0,0⟩
def C6 (ns:List DN):Nat→CV:=lf 3 (fun r:DN=>[CV.int .i64 r.v,.int .i64 r.lo,.int .i64 r.hi]) qV ns
@[go_sem] theorem QwE (ps:List DN) (i:Nat):C6 ps (i*3)=.int .i64 (ps.getD i qV).v:=by
  have:=Q9 (s:=3) (c:=fun r:DN=>[CV.int .i64 r.v,.int .i64 r.lo,.int .i64 r.hi]) (d:=qV) (xs:=ps) (i:=i) (k:=0) om
  exact this
@[go_sem] theorem QwF (ps:List DN) (i:Nat):C6 ps (i*3+1)=.int .i64 (ps.getD i qV).lo:=by
  have:=Q9 (s:=3) (c:=fun r:DN=>[CV.int .i64 r.v,.int .i64 r.lo,.int .i64 r.hi]) (d:=qV) (xs:=ps) (i:=i) (k:=1) om
  exact this
@[go_sem] theorem QwG (ps:List DN) (i:Nat):C6 ps (i*3+2)=.int .i64 (ps.getD i qV).hi:=by
  have:=Q9 (s:=3) (c:=fun r:DN=>[CV.int .i64 r.v,.int .i64 r.lo,.int .i64 r.hi]) (d:=qV) (xs:=ps) (i:=i) (k:=2) om
  exact this
structure DG where
 order:List Int
 nodes:List DN
 root:Int
structure FN where
 kind:Int
 k:Int
 args:List Int
def qZ:FN:=⟨0,0,[]⟩
def C7 (ns:List FN):Nat→CV:=lf 3 (fun r:FN=>[CV.int .i64 r.kind,.int .i64 r.k,is true r.args]) qZ ns
@[go_sem] theorem QwH (ps:List FN) (i:Nat):C7 ps (i*3)=.int .i64 (ps.getD i qZ).kind:=by
  have:=Q9 (s:=3) (c:=fun r:FN=>[CV.int .i64 r.kind,.int .i64 r.k,is true r.args]) (d:=qZ) (xs:=ps) (i:=i) (k:=0) om
  exact this
@[go_sem] theorem QwI (ps:List FN) (i:Nat):C7 ps (i*3+1)=.int .i64 (ps.getD i qZ).k:=by
  have:=Q9 (s:=3) (c:=fun r:FN=>[CV.int .i64 r.kind,.int .i64 r.k,is true r.args]) (d:=qZ) (xs:=ps) (i:=i) (k:=1) om
  exact this
@[go_sem] theorem QwJ (ps:List FN) (i:Nat):C7 ps (i*3+2)=is true (ps.getD i qZ).args:=by
  have:=Q9 (s:=3) (c:=fun r:FN=>[CV.int .i64 r.kind,.int .i64 r.k,is true r.args]) (d:=qZ) (xs:=ps) (i:=i) (k:=2) om
  exact this
structure FM where
 vars:Int
 nodes:List FN
 top:Int
def Ux (T:TypeId) (c:Int):CV:=if c=0 then .aN else .eZ T (.int .i64 c)
@[go_sem] theorem Qt8 (T:TypeId) (c:Int):(Ux T c).aX=true:=by unfold Ux;split<;>rfl
theorem TN {P:Program} {nw:Bool} {t T:TypeId} {y:Operand} {c:Int} (hy:sM y=true):Ui P nw .eql t y (.c (Ux T c)) (.c .aN)=some (OQ P t=true,.c (.bool (decide (c=0)))):=by
 unfold Ux
 split
 ·rename_i h;simp [Ui,hy,eb,h]
 ·rename_i h;simp [Ui,hy,eb,h]
theorem TO {P:Program} {nw:Bool} {t T:TypeId} {y:Operand} {c:Int} (hy:sM y=true):Ui P nw .neq t y (.c (Ux T c)) (.c .aN)=some (OQ P t=true,.c (.bool (!decide (c=0)))):=by
 unfold Ux
 split
 ·rename_i h;simp [Ui,hy,eb,h]
 ·rename_i h;simp [Ui,hy,eb,h]
@[go_sem ↓] theorem Qts (P:Program) (nw:Bool) (t T:TypeId) (c:Int):Ui P nw .eql t (.const .nilIface) (.c (Ux T c)) (.c .aN)=some (OQ P t=true,.c (.bool (decide (c=0)))):=TN rfl
@[go_sem ↓] theorem Qtt (P:Program) (nw:Bool) (t T:TypeId) (c:Int):Ui P nw .neq t (.const .nilIface) (.c (Ux T c)) (.c .aN)=some (OQ P t=true,.c (.bool (!decide (c=0)))):=TO rfl
theorem ZT {h:Qa} {T:TypeId} {c:Int}:JU h (Ux T c) (Ux T c):=by unfold Ux;split;exact .aN;exact .eZ (.int _ _)
theorem ZF {h:Qa} {T:TypeId} {c:Int} (e:c=0):JU h .aN (Ux T c):=by unfold Ux;rw [iP e];exact .aN
theorem Uy {h:Qa} {T:TypeId} {n c:Int} (e:n=c) (h0:c≠0):JU h (.eZ T (.int .i64 n)) (Ux T c):=by unfold Ux;rw [iN h0,e];exact .eZ (.int _ _)
theorem Qt9 {h:Qa} {t:Bool} {xs:List Int}:JU h (is true xs) (is t xs):=.row fun _ _=>.int _ _
theorem cp {α:Type} {h:Qa} {s:Nat} {c:α→List CV} {d:α} {xs:List α} (hs:0<s) (hc:∀x∈xs,∀k,k<s→JU h (ao (c x) k) (ao (c x) k)):∀j,j<xs.length*s→JU h (lf s c d xs j) (lf s c d xs j):=fun j hj=>by
 unfold lf
 have h1:j/s<xs.length:=(Nat.div_lt_iff_lt_mul hs).2 hj
 rw [Lg,Li h1]
 exact hc _ (Le h1) _ (Nat.mod_lt _ hs)
theorem QoU {h:Qa} {t:Bool} {ps:List RD}:JU h (OB true ps) (OB t ps):=
 .row (cp om fun x _ k hk=>by match k,hk with|0,_=>exact .bool _|1,_=>exact QZ|2,_=>exact QZ)
end Go.AI
namespace Go.Proofs.YtjegkdadeghpjaaGreatDoor
open Go.AI Go.PN Proofs.Tryz
attribute [local irreducible] aw Fa VA Vk Fh YO
abbrev Z7 (c:Int):CV:=Ux 32 c
theorem Qua (c:Int):Fa prog 17 [.c (Z7 c)] (.c (.int .i64 c)):=by
 by_cases h:c=0
 ·have e:Z7 c=.aN:=by unfold Z7 Ux;rw [iP h]
  rw [e]
  refine fA func17 fun C hC=>?_
  refine oe ?_
  refine xT hC ?_
  exact .one (.c (Qn h.symm))
 ·have e:Z7 c=.eZ 32 (.int .i64 c):=by unfold Z7 Ux;rw [iN h]
  rw [e]
  refine fA func17 fun C hC=>?_
  refine xG ?_
  refine xN ?_
  refine oe ?_
  refine xT hC ?_
  exact .one (.c (.int _ _))
theorem QoV {xs ys:List Nat} (hl:xs.length=ys.length) (h:∀j,j<xs.length→xs.getD j 0=ys.getD j 0):xs=ys:=by
 apply List.ext_getElem hl
 intro i h1 h2
 have:=h i h1
 rw [Lg,Lg,Li h1,Li h2] at this
 exact this
theorem Hx (xs ys:List Nat) (hl:xs.length≤68719476736):Fa prog 136 [.c (ws false xs),.c (ws false ys)] (.c (.bool (decide (xs=ys)))):=by
 refine fA func136 fun C hC=>?_
 refine xG ?_
 refine xF (fun hb=>?_) fun hb=>?_
 ·refine eS hC ?_
  refine .one (.c (Qe ?_))
  have:xs≠ys:=fun e=>by rw [e] at hb;simp at hb
  simp [this]
 ·have hlen:xs.length=ys.length:=by
   have h0:=hb
   simp at h0
   omega
  refine xG ?_
  refine Qh (fun i:Nat=>[(0,.c (ws false xs)),(1,.c (ws false ys)),(12,.c (.int .i64 xs.length)),(13,.c (.int .i64 i))]) (fun _=>[]) (fun i=>i≤xs.length∧∀j,j<i→xs.getD j 0=ys.getD j 0) (fun i=>xs.length-i) 0 eB zZ ⟨Lz _,fun j hj=>by omega⟩ ?_
  rintro i ⟨hi,hs⟩
  refine xG ?_
  refine xF (fun hb=>?_) fun hb=>?_
  ·have bV:i<xs.length:=dT hb
   refine xG ?_
   refine Xl 9 Qg kR ?_
   refine xG ?_
   refine xF (fun hc=>?_) fun hc=>?_
   ·refine eS hC ?_
    refine .one (.c (Qe ?_))
    have:xs≠ys:=fun e=>by rw [e] at hc;simp at hc
    simp [this]
   ·have he:xs.getD i 0=ys.getD i 0:=by
     by_cases e:xs.getD i 0=ys.getD i 0
     ·exact e
     ·exfalso
      have e2:((xs.getD i 0:Nat):Int)≠((ys.getD i 0:Nat):Int):=fun z=>e (Int.ofNat.inj z)
      first
       |(rw [bne,beq_eq_false_iff_ne.2 e2] at hc;cases hc)
       |(rw [bne,beq_eq_false_iff_ne.2 e] at hc;cases hc)
    refine xG ?_
    refine Qb ⟨i+1,by omega,eB,zZ,by omega,fun j hj=> ?_⟩
    by_cases dw:j=i
    ·rw [dw];exact he
    ·exact hs j om
  ·have bV:i=xs.length:=dF hb
   subst bV
   refine eS hC ?_
   refine .one (.c (Qe ?_))
   have:xs=ys:=QoV hlen hs
   simp [this]
instance:DecidableEq RD:=fun a b=>decidable_of_iff (a.neg=b.neg∧a.num=b.num∧a.den=b.den) (by cases a;cases b;simp)
theorem Uz (a b:RD) (hw:a.wf 68719476736):Fa prog 77 [.agg (YS a),.agg (YS b)] (.c (.bool (decide (a=b)))):=by
 have he:decide (a=b)=(decide (a.neg=b.neg)&&(decide (a.num=b.num)&&decide (a.den=b.den))):=by
  rw [Bool.eq_iff_iff]
  simp only [Dq,Ba]
  cases a;cases b;simp
 rw [he]
 refine fA func77 fun C hC=>?_
 refine xG ?_
 refine xB fun g2 aq=>?_
 refine yB aq fun g3 av=>?_
 have J1:=oj aq av
 refine yG J1 ?_
 refine YF 10 (zE J1) (fun h1=> ?_) (fun h1=> ?_)<;>refine yS J1 ?_
 ·have cU:a.neg=b.neg:=eq_of_beq h1
  refine yG J1 ?_
  refine yC J1 (Hx _ _ hw.2.2.1) ?_
  refine yG J1 ?_
  refine YF 17 (zE J1) (fun h2=> ?_) (fun h2=> ?_)<;>refine yS J1 ?_
  ·refine yG J1 ?_
   refine yC J1 (Hx _ _ hw.2.2.2) ?_
   refine OZ hC J1 ?_
   exact .one (.c (Qe (by rw [h2,cU];simp)))
  ·refine OZ hC J1 ?_
   exact .one (.c (Qe (by rw [h2];simp)))
 ·have cU:a.neg≠b.neg:=fun e=>by rw [e] at h1;simp at h1
  refine OZ hC J1 ?_
  exact .one (.c (Qe (by simp [cU])))
end Go.Proofs.YtjegkdadeghpjaaGreatDoor
namespace Go.AI
open Go.PN
def mA (w:World):Bool→Nat→Prop:=fun _ b=>b<w.heap.size
theorem kC.below {T:(Bool→Nat→Prop)→World→Prop} {P:Program} {f:FuncId} {args:List AV} {b:Bool} (hf:kC T P f args (.c (.bool b))) {w:World} {vs:List Value} (hT:T (mA w) w) (hr:ZN (mA w) w args vs):
  Calls P f vs.toArray w fun e w'=>e=.returned (.bool b)∧RowKit.Below w.heap.size w w':=by
 refine(hf.2 (mA w) w vs (fun _ h=>h) (fun _ _ h=>h) hT hr).mono ?_
 rintro e w' ⟨v,rfl,hv,bd⟩
 have kx:v=.bool b:=hv
 subst kx
 exact⟨rfl,bd.os,bd.tape,bd.output,bd.size,fun k hk=>bd.block k hk (fun x=>x)⟩
theorem Fa.below {P:Program} {f:FuncId} {args:List AV} {b:Bool} (hf:Fa P f args (.c (.bool b))) {w:World} {vs:List Value} (hr:ZN (mA w) w args vs):
 Calls P f vs.toArray w fun e w'=>e=.returned (.bool b)∧RowKit.Below w.heap.size w w':=kC.below (T:=fun _ _=>True) hf trivial hr
end Go.AI
namespace Go.Proofs.YtjegkdadeghpjaaGreatDoor
open Go.AI Go.PN Go.ChangeShapes
section
variable {P : Program}
def aQ (P:Program) (t:TypeId) {α:Type} (c:α→List CV) (B:α→Nat→Prop):Prop:=
 ∀(H:Type) (enc:TypeId×Value→H) (w:World) (fuel:Nat) (cs:List Value) (x:DataW H×List MemPlace),DataW.trod enc P w 0 (fun _=>true) true fuel t cs=some x→∃y,XV (mA w) w (c y) cs∧B y (Rows.uptoBulk x.1)
theorem QrD {t:TypeId} {k:IntKind} (ht:P.underlying t=some (.int k)):aQ P t (fun n:Int=>[.int k n]) (fun n _=>(Lit.int k n).wf=true):=fun H enc w fuel cs x h=>by
 obtain⟨n,rfl,rfl,hw⟩:=DataW.trod_int ht h
 exact⟨n,⟨rfl,trivial⟩,hw⟩
theorem QoW {t:TypeId} (ht:P.underlying t=some (.int .u32)):aQ P t (fun n:Nat=>[.int .u32 n]) (fun n _=>n<4294967296):=fun H enc w fuel cs x h=>by
 obtain⟨n,rfl,rfl,hw⟩:=DataW.trod_int ht h
 have hb:0≤n∧n≤4294967295:=by simpa [Lit.wf,IntKind.min,IntKind.max,IntKind.signed,IntKind.bits] using hw
 refine⟨n.toNat,⟨?_,trivial⟩,by omega⟩
 show Value.int .u32 n=Value.int .u32 ((n.toNat:Nat):Int)
 rw [show((n.toNat:Nat):Int)=n from by omega]
theorem QoX {t:TypeId} (ht:P.underlying t=some .bool):aQ P t (fun b:Bool=>[.bool b]) (fun _ _=>True):=fun H enc w fuel cs x h=>by
 obtain⟨n,rfl,rfl⟩:=DataW.trod_bool ht h
 exact⟨n,⟨rfl,trivial⟩,trivial⟩
theorem Hy {H:Type} {d:DataW H}:∀{l:List (DataW H)},d∈l→Rows.uptoBulk d≤Rows.uptoBulkAll l
 |x::r,h=>by
  simp only [Rows.uptoBulkAll]
  cases Lb.1 h with
  |inl e=>subst e;omega
  |inr e=>have:=Hy e;omega
theorem QoY {H:Type} (d:DataW H):1≤Rows.uptoBulk d:=by
 cases d with
 |lit l=>cases l<;>simp [Rows.uptoBulk]
 |nil=>simp [Rows.uptoBulk]
 |ptr d=>simp [Rows.uptoBulk]
 |slice elems spare=>simp [Rows.uptoBulk]
 |agg parts=>simp [Rows.uptoBulk]
 |iface t d=>simp [Rows.uptoBulk]
 |map entries=>simp [Rows.uptoBulk]
 |held h=>simp [Rows.uptoBulk]
theorem Hz {H:Type}:∀(l:List (DataW H)),l.length≤Rows.uptoBulkAll l
 |[]=>by simp [Rows.uptoBulkAll]
 |x::r=>by have:=QoY x;have:=Hz r;simp only [Rows.uptoBulkAll,Lc];omega
theorem Zq {t e:TypeId} {α:Type} {c:α→List CV} {B:α→Nat→Prop} {s:Nat} (z:α) (tg:Bool) (ht:P.underlying t=some (.slice e)) (hs:P.cellsOf e=s) (bw:0<s) (hB:∀y m n,B y m→m≤n→B y n) (hr:aQ P e c B):
  aQ P t (fun ys:List α=>[CV.row tg s ys.length (lf s c z ys)]) (fun ys n=>ys.length≤n∧∀y∈ys,B y n):=fun H enc w fuel cs x h=>by
 rcases DataW.trod_slice ht h with ⟨rfl,rfl⟩|⟨a,len,cap,elems,rest,n,rfl,rfl,rfl,_,oH,_,hlen,vj,_,_⟩
 ·exact⟨[],⟨⟨none,0,rfl,Ac _,fun h0=>by simp at h0⟩,trivial⟩,by simp,by simp⟩
 ·have key:∀i,∃y:α,i<len→∃d∈elems.map (·.1),B y (Rows.uptoBulk d)∧∀k,k<s→∃u,w.cell? (a.add (i*s+k))=some u∧XQ (mA w) w (ao (c y) k) u:=by
   intro i
   by_cases hi:i<len
   ·have h1:=vj i hi
    have h2:i<elems.length:=by omega
    rw [Li h2,hs] at h1
    obtain⟨us,gW,htr⟩:=Option.bind_eq_some_iff.1 h1
    obtain⟨y,hy,hb⟩:=hr H enc w n us _ htr
    obtain⟨_,il,hue⟩:=World.cells?_some gW
    refine⟨y,fun _=>⟨_,List.mem_map.2 ⟨_,Le h2,rfl⟩,hb,fun k hk=> ?_⟩⟩
    have P6:=hy.length
    obtain⟨u,hu,gp⟩:=hy.get k ((c y)[k]'om) (Li om)
    refine⟨u,?_,by rw [Of (c y) k _ (Li om)];exact gp⟩
    rw [←xy]
    exact(hue k hk).trans hu
   ·exact⟨z,fun h=>absurd h hi⟩
  obtain⟨g,hg⟩:∃g:Nat→α,∀i,i<len→∃d∈elems.map (·.1),B (g i) (Rows.uptoBulk d)∧∀k,k<s→∃u,w.cell? (a.add (i*s+k))=some u∧XQ (mA w) w (ao (c (g i)) k) u:=⟨fun i=>Classical.choose (key i),fun i=>Classical.choose_spec (key i)⟩
  have kJ:∀d∈elems.map (·.1),Rows.uptoBulk d≤Rows.uptoBulk (.slice (elems.map (·.1)) (rest.map (·.1))):=fun d hd=>by
   have:=Hy hd
   simp only [Rows.uptoBulk];omega
  refine⟨(List.range len).map g,⟨⟨some a,cap,by simp,by simpa using oH,fun h0=>⟨a,rfl,?_,fun j hj=> ?_⟩⟩,trivial⟩,?_,fun y hy=> ?_⟩
  ·simp only [Lw,List.length_range] at h0
   have lJ:0<len:=Nat.pos_of_ne_zero (fun e=>by subst e;simp at h0)
   obtain⟨_,_,_,hk⟩:=hg 0 lJ
   obtain⟨u,hu,_⟩:=hk 0 bw
   have hb:=AI.block_add a (0*s+0)
   unfold World.cell? at hu
   rw [hb] at hu
   show a.block<w.heap.size
   by_cases aD:a.block<w.heap.size
   ·exact aD
   ·rw [Array.getElem?_eq_none om] at hu
    cases hu
  ·simp only [Lw,List.length_range] at hj
   have hi:j/s<len:=(Nat.div_lt_iff_lt_mul bw).2 hj
   obtain⟨_,_,_,hk⟩:=hg (j/s) hi
   obtain⟨u,hu,gp⟩:=hk (j%s) (Nat.mod_lt _ bw)
   refine⟨u,?_,?_⟩
   ·rw [Nc,Nat.div_add_mod] at hu;exact hu
   ·unfold lf
    rw [Lg]
    simpa [hi] using gp
  ·rw [Lw,List.length_range]
   have:=Hz (elems.map (·.1))
   simp only [Rows.uptoBulk]
   rw [Lw] at this
   omega
  ·obtain⟨i,hi,rfl⟩:=List.mem_map.1 hy
   obtain⟨d,hd,hb,_⟩:=hg i (List.mem_range.1 hi)
   exact hB _ _ _ hb (kJ d hd)
theorem aQ.to {t:TypeId} {α β:Type} {c:α→List CV} {c':β→List CV} {B:α→Nat→Prop} {B':β→Nat→Prop} (hr:aQ P t c B) (f:α→β) (hc:∀y,c' (f y)=c y) (hB:∀y n,B y n→B' (f y) n):aQ P t c' B':=fun H enc w fuel cs x h=>by
 obtain⟨y,h1,h2⟩:=hr H enc w fuel cs x h
 exact⟨f y,by rw [hc];exact h1,hB _ _ h2⟩
end
end Go.Proofs.YtjegkdadeghpjaaGreatDoor
namespace Go.Proofs.YtjegkdadeghpjaaGreatDoor
open Go.AI Go.PN Go.ChangeShapes Go.WideShapes Go.RowKit Proofs.Tryz
theorem QmJ:laidOutB prog=true:=by kernel_rfl
theorem own:ownKnob prog.godebug=none:=by kernel_rfl
section
variable {H : Type} {enc : TypeId × Value → H} {P : Program}
theorem OH (hl:laidOutB P=true) {W W':World} {sp:Nat→Bool}:∀{ts:List TypeId} {vs:List Value} {ds:List (DataW H)} {p:List MemPlace},(∀t∈ts,P.readableRec t=true∧t<P.types.size)→DataW.TrodAll enc P W 0 (fun _=>true) true ts vs ds p→(∀x∈p,W.sameAt W' x)→(∀x∈p,sp x.block=true)→DataW.TrodAll enc P W' 0 sp true ts vs ds p
 |[],_,_,_,_,h,_,_=>by
  obtain⟨rfl,rfl,rfl⟩:=trodAll_nil h
  exact rfl
 |t::ts,_,_,_,vL,h,hs,hp=>by
  obtain⟨v,vs,d,ds,a,b,rfl,rfl,rfl,h1,h2⟩:=trodAll_cons h
  exact⟨a,b,WideElems.Trod_stays hl (vL t (Lf ..)).1 (vL t (Lf ..)).2 h1 (fun x hx=>hs x (List.mem_append_left _ hx)) (fun x hx=>hp x (List.mem_append_left _ hx)),
   OH hl (fun t' ht=>vL t' (Lm _ ht)) h2 (fun x hx=>hs x (List.mem_append_right _ hx)) (fun x hx=>hp x (List.mem_append_right _ hx)),rfl⟩
theorem Sb {fn:Func} {s:ChangeSpec} {W W':World} {args:Array Value} {ds gs:List (DataW H)} {before:List MemPlace} {tb:TypeId} (hl:laidOutB P=true) (vL:∀t∈fn.params.toList,P.readableRec t=true∧t<P.types.size) (Re:fn.resultTypes= #[tb]) (DY:P.underlying tb=some .bool) (p7:s.vars=[])
  (hW:DataW.Whole enc P fn.params.toList s.vars false W args.toList ds gs before) (pP:∀DC:List (DataW H),DC=[]→s.fn H (ds++DC)={results:=[.lit (.bool true)],args:=ds}) (hb:Below W.heap.size W W'):s.post enc P fn false true false false W args (.bool true) W':=by
 have PE:=hW
 obtain⟨p,q,hA,hV,rfl,PR,_⟩:=hW
 rw [p7] at hV
 obtain⟨rfl,rfl⟩:=trodVars_none hV
 have aD:∀x∈p++[],x.block<W.heap.size:=fun x hx=>by simpa using PE.lt x hx
 have jH:∀x∈p,x.block<W.heap.size:=fun x hx=>aD x (List.mem_append_left _ hx)
 have dK:∀(b:Nat) (sp:Nat→Bool) (hd:Bool),DataW.TrodAll enc P W' b sp hd fn.resultTypes.toList ((Value.bool true).resultList fn.resultTypes.size) (s.fn H (ds++[])).results []:=fun b sp hd=>by
  rw [Re,pP [] rfl]
  exact trodAll_cons_mk (shut_bool DY _) trodAll_mk0
 have mI:∀sp:Nat→Bool,(∀x∈p,sp x.block=true)→DataW.TrodAll enc P W' 0 sp true fn.params.toList args.toList (s.fn H (ds++[])).args p:=fun sp dP=>by
  rw [pP [] rfl]
  exact OH hl vL hA (fun x hx=>hb.same (jH x hx)) dP
 have tD:∀sp:Nat→Bool,DataW.TrodVars enc P W' sp s.vars (s.fn H (ds++[])).vars []:=fun sp=>by
  rw [p7,pP [] rfl];exact rfl
 refine⟨ds,[],p++[],[],p,[],PE,dK _ _ _,mI _ (fun x hx=>by simpa using jH x hx),tD _,hb.frame _,fun _=> ?_⟩
 refine⟨ok_one Re rfl (okWide_bool_mk DY _),_,_,([]++p)++[],⟨[]++p,[],trodAll_append (mI _ (fun _ _=>rfl)) (dK _ _ _),tD _,rfl,?_,fun h=>by cases h⟩,?_⟩
 ·intro b off hp
  have jJ:MemPlace.cell b off∈p++[]:=by simpa using hp
  rw [Below.frozen hb (aD _ jJ)]
  exact PR b off jJ
 ·intro x hx _
  simpa using hx
theorem Mp {α:Type} {c:α→List CV} {B:α→Nat→Prop} {t:TypeId} {fs:Array Field} (hr:aQ P t c B) (ht:P.underlying t=some (.struct fs)) {W:World} {base:Nat} {v:Value} {d:DataW H} {p:List MemPlace} (ho:Value.okWide P W .any base t v) (h:DataW.Trod enc P W 0 (fun _=>true) true t v d p):
  ∃y,Oy (mA W) W (.agg (c y)) v∧B y (Rows.uptoBulk d):=by
 obtain⟨cs,rfl,_⟩:=okWide_struct ht ho
 obtain⟨fuel,hf⟩:=h
 obtain⟨y,h1,h2⟩:=hr H enc W fuel _ _ hf
 exact⟨y,⟨cs.toList,by simp,h1⟩,h2⟩
end
theorem QrE {P:Program} {t:TypeId} (ht:P.underlying t=some .string):aQ P t (fun l:BS=>[.str (sB l)]) (fun l n=>l.length+1≤n):=fun H enc w fuel cs x h=>by
 obtain⟨s,rfl,rfl,_⟩:=DataW.trod_string ht h
 exact⟨s.data.toList,⟨rfl,trivial⟩,Ac _⟩
end Go.Proofs.YtjegkdadeghpjaaGreatDoor
namespace Go.AI
def cP {α:Type} [DecidableEq α] (a:α):List α→List MapEntry→Nat→Option (Nat×Value)
 |k::ks,e::es,i=>if a=k then some (i,e.val) else cP a ks es (i+1)
 |_,_,_=>none
structure pb (P:Program) (kt:TypeId) {α:Type} [DecidableEq α] (K:α→Value):Prop where
 check:∀b a w,(Instr.checkKey b 10000 kt (K a)).run P w=.ok () w
 find:∀(a:α) (ks:List α) (es:List MapEntry) w,es.map (·.key)=ks.map K→(Instr.findKey kt (K a) es).run P w=.ok (cP a ks es 0) w
section
variable {P : Program}
theorem WS {α:Type} [DecidableEq α] {K:α→Value} {kt:TypeId} (heq:∀a b w,(Op.equal kt (K a) (K b)).run P w=.ok (decide (a=b)) w) (a:α):∀(ks:List α) (es:List MapEntry) (i:Nat) (w:World),es.map (·.key)=ks.map K→(Instr.findAsking kt (K a) es i).run P w=.ok (cP a ks es i) w
 |[],[],i,w,_=>by simp [Instr.findAsking,cP]
 |k::ks,e::es,i,w,h=>by
  simp only [Ld,List.cons.injEq] at h
  simp only [Instr.findAsking,cP,Sem.run_bind,h.1,heq,Result.andThen_ok]
  by_cases hk:a=k
  ·simp [hk]
  ·simp only [hk,decide_false,Bool.false_eq_true,if_false]
   exact WS heq a ks es (i+1) w h.2
 |[],e::es,i,w,h=>by simp at h
 |k::ks,[],i,w,h=>by simp at h
def pq (ns:List Int):Value:=.agg (ns.map (Value.int .i64)).toArray
theorem Wp {n:Nat} {ns:List Int} (w:World) (b:Bool):∀(fs:List Field) (k:Nat),(fs.zipIdx k).all (fun p=>p.1.name != "_" &&p.1.offset==p.2&&(ZC P p.1.type).isSome)=true→k+fs.length≤ns.length→
  (forIn fs PUnit.unit (fun f (_:PUnit)=>(do
   if f.name≠ "_" then
    let __do_lift←part f.type (ns.map (Value.int .i64)).toArray f.offset
    Instr.checkKey b (n+1) f.type __do_lift
   pure (ForInStep.yield PUnit.unit):Sem (ForInStep PUnit)))).run P w=.ok PUnit.unit w
 |[],k,_,_=>by simp
 |f::fs,k,hf,hk=>by
  simp only [List.zipIdx_cons,List.all_cons,Ba,bne_iff_ne,ne_eq,beq_iff_eq] at hf
  obtain⟨⟨⟨hn,ho⟩,hi⟩,hr⟩:=hf
  simp only [Lc] at hk
  have iY:k<ns.length:=by omega
  obtain⟨kk,eV⟩:=Option.isSome_iff_exists.1 hi
  have hu:=V6 eV
  have zm:(isAgg f.type).run P w=.ok false w:=by simp [isAgg,run_underlying hu]
  have e1:(ns.map (Value.int .i64)).toArray[k]?=some (Value.int .i64 (ns[k])):=by simp [iY]
  have p1:(part f.type (ns.map (Value.int .i64)).toArray f.offset).run P w=.ok (.int .i64 (ns[k])) w:=by
   unfold part
   simp only [Sem.run_bind,zm,Result.andThen_ok,Bool.false_eq_true,if_false,ho,e1,Sem.run_pure]
  have p2:(Instr.checkKey b (n+1) f.type (.int .i64 (ns[k]))).run P w=.ok () w:=by
   simp [Instr.checkKey,run_underlying hu]
  have ih:=Wp (n:=n) (ns:=ns) w b fs (k+1) (by simpa using hr) om
  rw [List.forIn_cons]
  simp only [hn,not_false_eq_true,if_true,Sem.run_bind,p1,p2,Result.andThen_ok,Sem.run_pure,ne_eq]
  exact ih
theorem QrF {kt n:Nat} (ht:mz P kt=some n):pb P kt (fun ns:{l:List Int//l.length=n}=>pq ns.1):=by
 have EK:P.underlying kt=some (.struct (P.fieldsOf kt))∧(P.fieldsOf kt).toList.zipIdx.all (fun p=>p.1.name != "_" &&p.1.offset==p.2&&(ZC P p.1.type).isSome)=true∧(P.fieldsOf kt).size=n:=by
  unfold mz at ht
  split at ht
  ·rename_i hc
   simp only [Ba,Bool.not_eq_true'] at hc
   obtain⟨⟨⟨h1,h2⟩,h3⟩,h4⟩:=hc
   injection ht with ht
   exact⟨OW h4,h3,ht⟩
  ·cases ht
 obtain⟨hu,hf,hs⟩:=EK
 have heq:∀(a b:{l:List Int//l.length=n}) (w:World),(Op.equal kt (pq a.1) (pq b.1)).run P w=.ok (decide (a=b)) w:=fun a b w=>by
  have:=(BI ht a.2 b.2 w).1
  unfold Op.equal Op.maxDepth pq
  rw [this,Nb]
  congr 1
  rw [Bool.eq_iff_iff];simp [Subtype.ext_iff]
 refine⟨fun b a w=> ?_,fun a ks es w h=> ?_⟩
 ·unfold pq
  rw [show(10000:Nat)=9999+1 from rfl,Instr.checkKey]
  simp only [Sem.run_bind,run_underlying hu,Result.andThen_ok]
  rw [←Array.forIn_toList]
  have:=Wp (P:=P) (n:=9998) (ns:=a.1) w b (P.fieldsOf kt).toList 0 hf (by simp [hs,a.2])
  rw [this]
  rfl
 ·unfold Instr.findKey
  simp only [Sem.run_bind,run_underlying hu,Result.andThen_ok]
  cases es with
  |nil=>
   cases ks with
   |nil=>simp [Instr.findNow,cP]
   |cons k ks=>simp at h
  |cons e es=>
   have hn:Instr.findNow (.struct (P.fieldsOf kt)) (pq a.1) (e::es) 0=none:=by
    simp [Instr.findNow,Instr.sameNow]
   rw [hn]
   exact WS heq a ks (e::es) 0 w h
def JY {α:Type} (K:α→Value) (kv:List (α×Value)) (o:Obj):Prop:=∃es c,o=.map es c∧es.toList.map (fun e=>(e.key,e.val))=kv.map (fun p=>(K p.1,p.2))
def ZG {α:Type} [DecidableEq α] (a:α):List (α×Value)→Option Value
 |[]=>none
 |p::kv=>if a=p.1 then some p.2 else ZG a kv
theorem WT {α:Type} [DecidableEq α] {K:α→Value} (a:α):∀(kv:List (α×Value)) (es:List MapEntry) (i:Nat),es.map (fun e=>(e.key,e.val))=kv.map (fun p=>(K p.1,p.2))→(cP a (kv.map (·.1)) es i).map (·.2)=ZG a kv
 |[],[],i,_=>rfl
 |p::kv,e::es,i,h=>by
  simp only [Ld,List.cons.injEq,Ab] at h
  simp only [Ld,cP,ZG]
  split
  ·simp [h.1.2]
  ·exact WT a kv es (i+1) h.2
 |[],e::es,i,h=>by simp at h
 |p::kv,[],i,h=>by simp at h
def pr (P:Program) (t:TypeId):Option (TypeId×TypeId):=match P.underlying t with
 |some (.map k e)=>some (k,e)
 |_=>none
theorem Ok {t k e:TypeId} (h:pr P t=some (k,e)):P.underlying t=some (.map k e):=by
 unfold pr at h
 split at h
 ·rename_i hu;simp only [Aa,Ab] at h;rw [hu,h.1,h.2]
 ·cases h
def tJ (P:Program) (t:TypeId):Option Value:=match (P.info? t).bind (·.zero) with
 |some (.int k n)=>some (.int k n)
 |some (.bool b)=>some (.bool b)
 |_=>none
theorem Mq {t:TypeId} {z:Value} (h:tJ P t=some z) (w:World):(zeroValue t).run P w=.ok z w:=by
 unfold tJ at h
 cases hi:P.info? t with
 |none=>simp [hi] at h
 |some i=>
  cases hz:i.zero with
  |none=>simp [hi,hz] at h
  |some v=>
   simp only [hi,hz,Option.bind_some] at h
   split at h
   ·rename_i he;injection he with he;injection h with h;subst h;simp [zeroValue,typeInfo,hi,hz,he]
   ·rename_i he;injection he with he;injection h with h;subst h;simp [zeroValue,typeInfo,hi,hz,he]
   ·cases h
theorem xM {w:World} {r:Nat} {es:Array MapEntry} {c:Nat} (hb:w.heap[r]?=some (.map es c)):(getObj r).run P w=.ok (.map es c) w:=by simp [getObj,Sem.run,hb]
theorem M7 {w:World} {r:Nat} {es:Array MapEntry} {c:Nat} (o':Obj) (hb:w.heap[r]?=some (.map es c)):(setObj r o').run P w=.ok () {w with heap:=w.heap.setIfInBounds r o'}:=by simp [setObj,Sem.run,hb]
variable {E : Vj} {K : List It} {σ σ' : Sl} {h : Qa} {all rest : List Oper} {o : Oper}
theorem FX {α:Type} {Kf:α→Value} {t:TypeId} (au:o.op=.makeMap t none) (hw:Qu all σ o=some true) (hd:Qs E.N o.dst=true)
  (k:∀g,g∉h.keys→aw E (.ops all rest::K) (σ.az o.dst (.c (.raw (.map (some g))))) ((g,.gen (JY Kf []))::h)):aw E (.ops all (o::rest)::K) σ h:=by
 refine UW (r:=fun g=>.c (.raw (.map (some g)))) (ob:=.gen (JY Kf [])) hw hd (fun a w s=> ?_) k
 refine⟨.map (some w.heap.size),w.alloc (.map #[] 0),?_,Fr.alloc _ _ _,by simp,⟨_,heap_alloc_new w _,_,_,rfl,rfl⟩,rfl⟩
 simp only [execOp,au]
 rfl
theorem QmK {α:Type} [DecidableEq α] {Kf:α→Value} {t kt et g:TypeId} {kv:List (α×Value)} {x ky:Operand} {ck:AV} {a:α} {z:Value} (au:o.op=.lookup t x ky false) (hw:Qu all σ o=some true) (hd:Qs E.N o.dst=true)
  (ht:pr E.P t=some (kt,et)) (hK:pb E.P kt Kf) (hz:tJ E.P et=some z) (hx:ev σ x=.c (.raw (.map (some g)))) (hg:h.get g=some (.gen (JY Kf kv))) (hk:ev σ ky=ck) (iY:∀S w v,VY S w ck v→v=Kf a)
  (k:aw E (.ops all rest::K) (σ.az o.dst (.c (Oz ((ZG a kv).getD z)))) h):aw E (.ops all (o::rest)::K) σ h:=by
 refine Kj hw (fun ac w s=> ?_) k
 have h1:=QN s x
 rw [hx] at h1
 have cU:ac.eval x=.map (some g):=h1
 have h2:=QN s ky
 rw [hk] at h2
 have jB:=iY _ _ _ h2
 obtain⟨ob,hb,es,c,rfl,lI⟩:=s.heap g _ (Qa.get_mem hg)
 have gi:es.toList.map (·.key)=(kv.map (·.1)).map Kf:=by
  have:=congrArg (List.map Prod.fst) lI
  rw [List.map_map,List.map_map] at this
  rw [List.map_map]
  exact this
 have gg:=hK.find a (kv.map (·.1)) es.toList w gi
 have de:=WT (K:=Kf) a kv es.toList 0 lI
 refine⟨(ZG a kv).getD z,w,.inl ?_,s.put hd (WE _ _ _)⟩
 have Ek:(Instr.lookup t (ac.eval x) (ac.eval ky) false).run E.P w=.ok ((ZG a kv).getD z) w:=by
  rw [cU,jB]
  unfold Instr.lookup
  simp only [Sem.run_bind,run_underlying (Ok ht),Result.andThen_ok,xM hb,Sem.run_pure,hK.check,gg]
  rw [←de]
  cases hf:cP a (kv.map (·.1)) es.toList 0 with
  |none=>simp [Mq hz]
  |some p=>obtain⟨i,v⟩:=p;simp
 simp only [execOp,au,Sem.run_bind,Ek,Result.andThen_ok]
 rfl
theorem K2 {α:Type} [DecidableEq α] {Kf:α→Value} {t kt et g:TypeId} {kv:List (α×Value)} {x ky vl:Operand} {ck cv:AV} {a:α} {v:Value} (au:o.op=.mapUpdate t x ky vl) (hY:o.dst=none) (hw:Qu all σ o=some true)
  (ht:pr E.P t=some (kt,et)) (hK:pb E.P kt Kf) (hx:ev σ x=.c (.raw (.map (some g)))) (hg:h.get g=some (.gen (JY Kf kv))) (hk:ev σ ky=ck) (iY:∀S w u,VY S w ck u→u=Kf a) (hv:ev σ vl=cv) (rZ:∀S w u,VY S w cv u→u=v)
  (dx:ZG a kv=none) {h':Qa} (hh:h.set g (.gen (JY Kf (kv++[(a,v)])))=h') (k:aw E (.ops all rest::K) σ h'):aw E (.ops all (o::rest)::K) σ h:=by
 subst hh
 refine Kj hw (fun ac w s=> ?_) k
 have h1:=QN s x
 rw [hx] at h1
 have cU:ac.eval x=.map (some g):=h1
 have h2:=QN s ky
 rw [hk] at h2
 have jB:=iY _ _ _ h2
 have h3:=QN s vl
 rw [hv] at h3
 have ox:=rZ _ _ _ h3
 obtain⟨ob,hb,es,c,rfl,lI⟩:=s.heap g _ (Qa.get_mem hg)
 have gi:es.toList.map (·.key)=(kv.map (·.1)).map Kf:=by
  have:=congrArg (List.map Prod.fst) lI
  rw [List.map_map,List.map_map] at this
  rw [List.map_map]
  exact this
 have gg:=hK.find a (kv.map (·.1)) es.toList w gi
 have de:=WT (K:=Kf) a kv es.toList 0 lI
 have vC:cP a (kv.map (·.1)) es.toList 0=none:=by
  cases hf:cP a (kv.map (·.1)) es.toList 0 with
  |none=>rfl
  |some p=>rw [hf,dx] at de;cases de
 have bY:g<w.heap.size:=(Array.getElem?_eq_some_iff.1 hb).1
 let w':World:={w with heap:=w.heap.setIfInBounds g (.map (es.push {key:=Kf a,val:=v,born:=c}) (c+1))}
 have aR:(Instr.mapUpdate t (ac.eval x) (ac.eval ky) (ac.eval vl)).run E.P w=.ok () w':=by
  rw [cU,jB,ox]
  unfold Instr.mapUpdate
  simp only [Sem.run_bind,run_underlying (Ok ht),Result.andThen_ok,xM hb,hK.check,gg,vC,M7 _ hb]
  rfl
 refine⟨undef,w',.inr ⟨?_,rfl⟩,?_⟩
 ·simp only [execOp,au,Sem.run_bind,aR,Result.andThen_ok]
  rfl
 ·rw [hY]
  have bd:Fr (fun b=>b=g) w w':=by
   refine⟨rfl,rfl,rfl,by simp [w'],Ac _,fun b _ aK=> ?_,fun g' m hh=> ?_⟩
   ·simp only [w'];rw [Array.getElem?_setIfInBounds_ne (fun e=>aK e.symm)]
   ·obtain⟨cs,ty,⟨fr,hc⟩,hs⟩:=hh
    refine⟨cs,ty,⟨fr,?_⟩,hs⟩
    have aK:g'≠g:=fun e=>by rw [e,hb] at hc;cases hc
    simp only [w']
    rw [Array.getElem?_setIfInBounds_ne (fun e=>aK e.symm)];exact hc
  refine s.setObj hg bd ⟨_,by simp only [w'];rw [Array.getElem?_setIfInBounds_self_of_lt bY],_,_,rfl,?_⟩
  simp only [Array.toList_push,List.map_append,Ld,List.map_nil,lI]
end
end Go.AI
namespace Go.AI
section
variable {E : Vj} {K : List It} {σ σ' : Sl} {h : Qa} {all rest : List Oper} {o : Oper}
theorem BR {t e:TypeId} {t2:TypeId} {x:Operand} {tg:Bool} {s n:Nat} {f:Nat→CV} (au:o.op=.binOp .eql t x (.const (.slice none 0 0)) t2) (hw:Qu all σ o=some true) (hd:Qs E.N o.dst=true) (ht:E.P.underlying t=some (.slice e)) (hx:ev σ x=.c (.row tg s n f)) (hs:0<s)
  (k:∀b:Bool,(b=true→n=0)→aw E (.ops all rest::K) (σ.az o.dst (.c (.bool b))) h):aw E (.ops all (o::rest)::K) σ h:=fun a w st=>by
 have h1:=QN st x
 rw [hx] at h1
 obtain⟨A,c,hv,hc,hn⟩:=h1
 show wpList _ _ _ _ _ _
 unfold wpList
 rw [iP (st.wanted hw)]
 refine .inl ?_
 unfold Oper.wp
 have aR:(execOp a.eval o).run E.P w=.ok (.value (.bool A.isNone)) w:=by
  have e2:a.eval (.const (.slice none 0 0))=.slice none 0 0:=rfl
  have h3:(eqGuard .eql t x (.const (.slice none 0 0)) (.slice A n c) (.slice none 0 0)).run E.P w=.ok () w:=by
   simp [eqGuard]
  have h4:(binOp .eql t (.slice A n c) (.slice none 0 0)).run E.P w=.ok (.bool A.isNone) w:=by
   unfold binOp
   simp [run_equal_slice_nil w t e A n c ht]
  simp only [execOp,au,hv,e2,Sem.run_bind,h3,h4,Result.andThen_ok]
  rfl
 rw [aR]
 refine k A.isNone (fun hb=> ?_) _ _ (st.put hd rfl)
 cases A with
 |none=>
  rcases Nat.eq_zero_or_pos n with h0|h0
  ·exact h0
  ·obtain⟨ad,e,_⟩:=hn (Nat.mul_pos h0 hs)
   cases e
 |some a=>cases hb
def fw (gs:List Nat):List Value:=gs.map fun g=>.pointer (some ⟨g,0,none⟩)
def jz (f:FuncId) (gs:List Nat):CV:=.raw (.func (.func f) #[] (fw gs).toArray)
theorem ZH {f:FuncId} {cs:List Operand} {gs:List Nat} (au:o.op=.makeFunc (.func f) #[] cs.toArray) (hw:Qu all σ o=some true) (hd:Qs E.N o.dst=true) (hc:cs.map (ev σ)=gs.map fun g=>.c (.aj g 0))
  (k:aw E (.ops all rest::K) (σ.az o.dst (.c (jz f gs))) h):aw E (.ops all (o::rest)::K) σ h:=by
 refine Kj hw (fun a w s=> ?_) k
 have pM:∀(cs:List Operand) (gs:List Nat),cs.map (ev σ)=gs.map (fun g=>AV.c (.aj g 0))→cs.map a.eval=fw gs:=by
  intro cs
  induction cs with
  |nil=>intro gs hg;cases gs with
   |nil=>rfl
   |cons g gs=>cases hg
  |cons x cs ih=>intro gs hg;cases gs with
   |nil=>cases hg
   |cons g gs=>
    simp only [Ld,List.cons.injEq] at hg
    have h1:=QN s x
    rw [hg.1] at h1
    have cU:a.eval x=.pointer (some ⟨g,0,none⟩):=h1
    simp only [Ld,fw]
    rw [cU,ih gs hg.2]
    rfl
 refine⟨.func (.func f) #[] (fw gs).toArray,w,.inl ?_,s.put hd rfl⟩
 simp only [execOp,au,Instr.makeFunc,List.map_toArray,pM cs gs hc]
 rfl
theorem ZN.fw {S:Bool→Nat→Prop} {w:World}:∀{A:List AV} {vs:List Value} (gs:List Nat),ZN S w A vs→ZN S w (A++gs.map fun g=>.c (.aj g 0)) (vs++AI.fw gs)
 |[],[],gs,_=>by
  induction gs with
  |nil=>trivial
  |cons g gs ih=>exact⟨rfl,ih⟩
 |_::_,_::_,gs,h=>⟨h.1,ZN.fw gs h.2⟩
 |[],_::_,_,h=>h.elim
 |_::_,[],_,h=>h.elim
theorem QmL {f:FuncId} {x:Operand} {gs:List Nat} {xs:List Operand} {ts:Array TypeId} {hc hr:Qa} {args:List AV} {Q:AV→Qa→Prop} (hf:Fh E.P f hc (args++gs.map fun g=>.c (.aj g 0)) Q) (au:o.op=.call {callee:=.value x,args:=xs.toArray,argTypes:=ts}) (hw:Qu all σ o=some true) (hd:Qs E.N o.dst=true) (hx:ev σ x=.c (jz f gs))
  (hp:h.Perm (hc++hr)) (le:JT [] (xs.map (ev σ)) args) (k:∀r h',Q r h'→(∀g∈h'.keys,g∉hr.keys)→aw E (.ops all rest::K) (σ.az o.dst r) (h'++hr)):aw E (.ops all (o::rest)::K) σ h:=fun a w s=>by
 show wpList _ _ _ _ _ _
 unfold wpList
 rw [iP (s.wanted hw)]
 refine .inl ?_
 unfold Oper.wp
 have hv:a.eval x=.func (.func f) #[] (fw gs).toArray:=by
  have:=QN s x
  rw [hx] at this
  exact this
 have aR:(execOp a.eval o).run E.P w=.ok (.enter f (xs.map a.eval++fw gs).toArray) w:=by
  simp only [execOp,au,resolve,hv,Deferred.ofValue,invoke,Sem.run_bind]
  have:=hf.1.run (#[]++(Array.map a.eval xs.toArray)++(fw gs).toArray) w
  simp only [Sem.run_pure,Result.andThen_ok]
  rw [show((xs.map a.eval++fw gs).toArray)=(#[]++(Array.map a.eval xs.toArray)++(fw gs).toArray) from by simp]
  exact this
 rw [aR]
 show Calls _ _ _ _ _
 refine(hf.use s hp (ZN.fw gs (JT.lY s le))).mono ?_
 rintro e w' ⟨v,r,h',rfl,hq,bd,s',cR⟩
 exact k r h' hq bd _ _ (s'.put hd cR)
theorem Bk {f:FuncId} {x:Operand} {xs:List Operand} {ts:Array TypeId} {args:List AV} {r:AV} (hf:Fa E.P f args r) (au:o.op=.call {callee:=.value x,args:=xs.toArray,argTypes:=ts}) (hw:Qu all σ o=some true) (hd:Qs E.N o.dst=true) (hx:ev σ x=.c (.raw (.func (.func f) #[] #[])))
  (le:JT h (xs.map (ev σ)) args) (k:aw E (.ops all rest::K) (σ.az o.dst r) h):aw E (.ops all (o::rest)::K) σ h:=fun a w s=>by
 show wpList _ _ _ _ _ _
 unfold wpList
 rw [iP (s.wanted hw)]
 refine .inl ?_
 unfold Oper.wp
 have hv:a.eval x=.func (.func f) #[] #[]:=by
  have:=QN s x
  rw [hx] at this
  exact this
 have aR:(execOp a.eval o).run E.P w=.ok (.enter f (xs.map a.eval).toArray) w:=by
  simp only [execOp,au,resolve,hv,Deferred.ofValue,invoke,Sem.run_bind]
  have:=hf.1.run (#[]++(Array.map a.eval xs.toArray)++ #[]) w
  simp only [Sem.run_pure,Result.andThen_ok]
  rw [show((xs.map a.eval).toArray)=(#[]++(Array.map a.eval xs.toArray)++ #[]) from by simp]
  exact this
 rw [aR]
 show Calls _ _ _ _ _
 refine(hf.use s le).mono ?_
 rintro e w' ⟨v,rfl,hr,bd⟩
 exact k _ _ ((s.later bd).put hd hr)
end
end Go.AI
namespace Go.AI
section
variable {E : Vj} {K : List It} {σ σ' : Sl} {h : Qa} {all l rest : List Oper} {o o1 o2 : Oper}
theorem Wu.buildSlice {t e size bytes len:Nat} {xs:List Operand} {cells:List CV} (au:o.op=.buildSlice t len (o9 0 xs).toArray) (hw:Qu l σ o=some true) (hd:Qs E.N o.dst=true) (ht:QP E.P t=some (e,size,bytes))
  (hz:(Qk E.P e).isSome=true) (hl:xs.length=len) (gw:len*size≤16777216) (pX:len≤16777216) (hx:∀x∈xs,(ev σ x).flat=true∧(ev σ x).cells.all CV.aX=true∧(ev σ x).cells.length=size) (hc:(xs.map (ev σ)).flatMap AV.cells=cells) (oN:∀x∈xs,x∈o.op.operands):
  Wu E h l σ o (fun g=>.c (.aO g size 0 len)) (.cells e (len*size) (ao cells)):=by
 subst hc
 refine Wu.ei hw hd fun σ' ext a w he s=> ?_
 have rJ:xs.map (ev σ')=xs.map (ev σ):=List.map_congr_left fun x kz=>he x (oN x kz)
 have kQ:∀x∈xs,(ev σ' x).flat=true∧(ev σ' x).cells.all CV.aX=true∧(ev σ' x).cells.length=size:=fun x kz=>by rw [he x (oN x kz)];exact hx x kz
 rw [←rJ]
 obtain⟨hu,inf,hi,bF,_⟩:=Q6 ht
 obtain⟨z,EY⟩:=Option.isSome_iff_exists.1 hz
 obtain⟨i',zv,hi',fQ,_⟩:=Yt EY
 rw [hi] at hi'
 injection hi' with hi'
 subst hi'
 obtain⟨hL,cn⟩:=A7 s size xs kQ
 have lM:w.heap.size∉(ext++h).keys:=fun hm=>Nat.lt_irrefl _ (s.jZ hm)
 generalize mX:xs.map a.eval=vs at hL cn
 have rI:vs.length=len:=by rw [←mX];simpa using hl
 have cW:(vs.flatMap fun v=>v.cells.toList).length=len*size:=by
  rw [←rI]
  clear hL mX rI
  induction vs with
  |nil=>simp
  |cons v vs ih=>simp only [List.flatMap_cons,La,Lc,ih (fun x hx=>cn x (Lm _ hx)),Nat.add_mul];have:=cn v (by simp);simp [this];omega
 refine⟨.slice (some ⟨w.heap.size,0,none⟩) len len,w.alloc (.cells (vs.flatMap fun v=>v.cells.toList).toArray e),?_,Fr.alloc _ _ _,by simp,?_,?_⟩
 ·have hm:(Array.map (fun x:Nat×Operand=>(x.1,a.eval x.2)) (o9 0 xs).toArray).toList=eF 0 vs:=by
   rw [←mX,←Br];simp
  have jF:∀zc:Array Value,Instr.fill (fun i=>some (i*size,size)) ((Array.range (len*size)).map (fun x=>zc[x%zc.size]!)) (eF 0 vs)=some (vs.flatMap fun v=>v.cells.toList).toArray:=fun zc=>by
   rw [Bp size vs 0 _ cn (by simp [rI])]
   rw [Nat.zero_mul,Gd _ _ (by simp [cW])]
  simp only [execOp,au,Instr.buildSlice,Sem.run_bind,run_underlying hu,Result.andThen_ok,sizeOf,typeInfo,Sem.run_pure]
  simp only [run_program,hi,Result.andThen_ok,Sem.run_pure,bF]
  rw [iN om]
  rw [hm]
  by_cases h0:len*size=0
  ·rw [iP h0]
   simp only [Sem.run_bind,Sem.run_pure,Result.andThen_ok,jF]
   rfl
  ·rw [iN h0]
   simp only [Sem.run_bind,Sem.run_pure,Result.andThen_ok,zeroValue,typeInfo,run_program,hi,fQ,jF]
   rfl
 ·have hr:=Uh (C:=E.C) (w:=w) (ty:=e) (h':=((w.heap.size,XS.cells e (len*size) (ao ((xs.map (ev σ')).flatMap AV.cells)))::(ext++h))) (hL.aT (WH lM))
  have bS:((xs.map (ev σ')).flatMap AV.cells).length=len*size:=by rw [←hL.length,cW]
  rw [bS] at hr
  exact hr
 ·exact⟨len,rfl,Ac _,by unfold maxLen;omega,(vs.flatMap fun v=>v.cells.toList).toArray,e,⟨_,heap_alloc_new w _⟩,by simp [cW]⟩
end
end Go.AI
namespace Go.AI
theorem eI {P:Prop} (k:P:=by(repeat' first|exact Qf|refine Qm ?_ ?_)<;>simp):P:=k
theorem Fh.mono {P:Program} {f:FuncId} {hc:Qa} {args:List AV} {Q Q':AV→Qa→Prop} (hf:Fh P f hc args Q) (h:∀r h',Q r h'→Q' r h'):Fh P f hc args Q':=
 ⟨hf.1,fun C vs h1 h2 h3 h4=>(hf.2 C vs h1 h2 h3 h4).mono (by
  rintro e w ⟨v,r,h',he,hq,rest⟩
  exact⟨v,r,h',he,h _ _ hq,rest⟩)⟩
def vY (a:Nat):List Nat→Prop
 |[]=>True
 |b::l=>((a=b)=False∧(b=a)=False)∧vY a l
def z6:List Nat→Prop
 |[]=>True
 |a::l=>vY a l∧z6 l
theorem MW {a:Nat}:∀{l:List Nat},a∉l→vY a l
 |[],_=>trivial
 |b::l,h=>by
  rw [Lb,not_or] at h
  exact⟨⟨eq_false h.1,eq_false fun e=>h.1 e.symm⟩,MW h.2⟩
theorem CC:∀{l:List Nat},l.Nodup→z6 l
 |[],_=>trivial
 |a::l,h=>by
  rw [List.nodup_cons] at h
  exact⟨MW h.1,CC h.2⟩
section
variable {E : Vj} {K : List It} {l : List Oper} {FP : Qa} {σ σ' : Sl} {h : Qa} {o : Oper} {i : Nat} {cs : List (Nat × Nat)}
theorem wc3 {i:Nat} {FP:Qa} {cs:List (Nat×Nat)} (ho:l[i]?=some o) (hd:Qs E.N o.dst=true) (k:∀R:Option (Prop×Sl)→Prop,(∀q σ',CW E l K FP cs σ' h→(hq:q:=by(try simp only [XM])<;>and_intros<;>first|exact True.intro|omega|trivial)→R (some (q,σ')))→R (Za E.P true [] l o σ)):CW E l K FP ((i,3)::cs) σ h:=by
 have:=k (fun x=>x=Za E.P true [] l o σ→CW E l K FP ((i,3)::cs) σ h) (fun q σ' ha hq e=>by
  unfold Za at e
  split at e
  ·rename_i hw
   split at e
   ·rename_i q1 r hp
    injection e with e
    injection e with e1 e2
    subst e1 e2
    exact .td ho (iy.pure hw hp hq hd) ha
   ·cases e
  ·rename_i hw
   injection e with e
   injection e with e1 e2
   subst e1 e2
   exact .td ho (iy.skip hw hd) ha
  ·cases e)
 exact this rfl
theorem B5 {h':Qa} (hp:h.Perm h') (k:CW E l K FP cs σ h'):CW E l K FP cs σ h:=by
 induction cs generalizing σ h h' with
 |nil=>
  cases k with
  |nil k=>exact .nil (Qj hp k)
 |cons c cs ih=>
  cases k with
  |pF ho hf k=>exact .pF ho hf (ih hp k)
  |td ho hf k=>exact .td ho hf (ih hp k)
  |k6 ho jI hpn rz k=>exact .k6 ho jI (fun σ' K hs=>Qj hp (hpn σ' K hs)) rz k
theorem Wu.makeMap {α:Type} {Kf:α→Value} {t:TypeId} (au:o.op=.makeMap t none) (hw:Qu l σ o=some true) (hd:Qs E.N o.dst=true):Wu E h l σ o (fun g=>.c (.raw (.map (some g)))) (.gen (JY Kf [])):=by
 refine Wu.ei hw hd fun σ' ext a w he s=> ?_
 refine⟨.map (some w.heap.size),w.alloc (.map #[] 0),?_,Fr.alloc _ _ _,by simp,⟨_,heap_alloc_new w _,_,_,rfl,rfl⟩,rfl⟩
 simp only [execOp,au]
 rfl
end
end Go.AI
namespace Go.AI
section
variable {E : Vj} {K : List It} {σ σ' : Sl} {h : Qa} {all rest : List Oper} {o : Oper}
theorem UA {g n:Nat} {ty:TypeId} {f f':Nat→CV} {h:Qa} (hf:∀j,j<n→∀S w u,XQ S w (f j) u→XQ S w (f' j) u) (k:aw E K σ ((g,.cells ty n f')::h)):aw E K σ ((g,.cells ty n f)::h):=fun a w s=>by
 refine k a w ⟨s.size,s.defers,s.bC,fun g' o' hm=> ?_,s.nodup,s.keys,s.frame⟩
 rcases Lb.1 hm with e|hm
 ·injection e with e1 e2
  subst e1 e2
  obtain⟨cs,hb,hc,hj⟩:=s.heap _ _ (Lf ..)
  exact⟨cs,hb,hc,fun j bp=>by obtain⟨u,hu,hr⟩:=hj j bp;exact⟨u,hu,hf j bp _ _ _ hr⟩⟩
 ·exact s.heap g' o' (Lm _ hm)
theorem XK {S:Bool→Nat→Prop} {w:World} {u:Value} {t:Bool} {s:Nat} {f:Nat→CV} (h:XQ S w .ab u):XQ S w (.row t s 0 f) u:=by
 obtain⟨A,hv⟩:=h
 exact⟨A,0,hv,Ac _,fun h0=>by simp at h0⟩
theorem Sl.set_set (t:Nat) (u v:AV):∀σ:Sl,(σ.set t u).set t v=σ.set t v
 |[]=>by simp [Sl.set]
 |(t',x)::σ=>by
  simp only [Sl.set]
  by_cases e:t'=t
  ·rw [iP e,iP e];simp [Sl.set]
  ·rw [iN e,iN e];simp only [Sl.set,iN e];rw [Sl.set_set t u v σ]
theorem B6 {t g s off n m:Nat} {ty:TypeId} {f:Nat→CV} (f':Nat→CV) {σ':Sl} {h':Qa} (ht:σ.get t=.c (.aO g s off n)) (hg:h.get g=some (.cells ty m f)) (hm:off+n*s≤m) (hn:¬E.C.bO g) (hf:∀j,j<n*s→f (off+j)=f' j) (gX:σ.set t (.c (.row true s n f'))=σ') (hh:h.del g=h')
  (k:aw E K σ' h'):aw E K σ h:=by
 refine M9 ht hg hm hn rfl hh ?_
 refine ZP (t:=t) (v:=.c (.row true s n f')) (σ':=σ') (fun S w u hr=> ?_) ?_ k
 ·rw [Sl.bL,iP rfl] at hr
  obtain⟨A,c,hv,hc,hn⟩:=hr
  refine⟨A,c,hv,hc,fun h0=> ?_⟩
  obtain⟨ad,hA,hS,hj⟩:=hn h0
  refine⟨ad,hA,hS,fun j bp=> ?_⟩
  obtain⟨u,hu,gp⟩:=hj j bp
  exact⟨u,hu,by rw [←hf j bp];exact gp⟩
 ·rw [←gX,Sl.set_set]
theorem QS {P:Program} {fn:Func} {C:ZX} {Q:AV→Qa→Prop} {cg:List ResultVar} (dy:fn.results=cg.toArray) {h':Qa} (dV:h'.Sublist h) (k:∀R:Option AV→Prop,(∀x,qx x=true→Q x h'→R (some x))→R (ZY P σ h cg)):
  aw (V7 P fn C Q) (.code .ret::K) σ h:=by
 have hr:∀x,qx x=true→Q x h'→some x=ZY P σ h cg→aw (V7 P fn C Q) (.code .ret::K) σ h:=fun x hf hq e a w s=>by
  refine wp_ret (UV a w ?_)
  obtain⟨v,hv,cR⟩:=WI s dy e.symm (Jb hf)
  have kM:∀b,b∈h'.keys→b∈h.keys:=fun b hb=>by
   obtain⟨p,hp,e⟩:=List.mem_map.1 hb
   exact List.mem_map.2 ⟨p,dV.subset hp,e⟩
  have kp:Yn (QH C h w) (QH C h' w) w w:=⟨fun t b hb=>⟨hb.1,hb.2.1,fun hm=>hb.2.2 (kM b hm)⟩,fun _ _ _=>rfl,fun _ _ e=>e⟩
  exact⟨s.defers,v,hv,v,x,h',rfl,hq,(dV.map _).nodup s.nodup,fun g hg=>s.keys g (kM g hg),cR.aT kp,fun g o hm=>YN.aT kp rfl (s.heap g o (dV.subset hm)),s.frame⟩
 have:=k (fun y=>y=ZY P σ h cg→aw (V7 P fn C Q) (.code .ret::K) σ h) hr
 exact this rfl
theorem Q7 {gT m s n j0:Nat} {og:Option Nat} {ty tp:TypeId} {f f' fp:Nat→CV} (hf:f j0=gs og s n) (PO:f' j0=.row true s n fp) (PQ:∀j,j<m→j≠j0→f' j=f j) (ax:og=none→n=0) (ho:∀g,og=some g→¬E.C.bO g)
  (k:aw E K σ ((gT,.cells ty m f')::h)):aw E K σ ((gT,.cells ty m f)::(gh og tp (n*s) fp++h)):=by
 cases og with
 |none=>
  have hn:=ax rfl
  subst hn
  refine UA (f':=f') (fun j hj S w u hr=> ?_) k
  by_cases e:j=j0
  ·subst e
   rw [hf] at hr
   rw [PO]
   exact XK hr
  ·rw [PQ j hj e];exact hr
 |some gP=>
  have ho:=ho gP rfl
  show aw E K σ ((gT,.cells ty m f)::(gP,.cells tp (n*s) fp)::h)
  intro a w st
  refine k a w ?_
  have bf:=st.nodup
  simp only [Qa.keys,Ld,List.nodup_cons,Lb,not_or] at bf
  obtain⟨⟨hTP,hTh⟩,hPh,hh⟩:=bf
  have gU:(gP,XS.cells tp (n*s) fp)∈(gT,XS.cells ty m f)::(gP,.cells tp (n*s) fp)::h:=Lm _ (Lf ..)
  have vu:gP∈Qa.keys ((gT,XS.cells ty m f)::(gP,.cells tp (n*s) fp)::h):=List.mem_map.2 ⟨_,gU,rfl⟩
  have kM:∀b,b∈Qa.keys ((gT,XS.cells ty m f')::h)→b∈Qa.keys ((gT,XS.cells ty m f)::(gP,.cells tp (n*s) fp)::h):=fun b hb=>by
   simp only [Qa.keys,Ld,Lb] at hb⊢
   exact hb.imp id .inr
  have kp:Yn (QH E.C ((gT,.cells ty m f)::(gP,.cells tp (n*s) fp)::h) w) (QH E.C ((gT,.cells ty m f')::h) w) w w:=⟨fun t b hb=>⟨hb.1,hb.2.1,fun hm=>hb.2.2 (kM b hm)⟩,fun _ _ _=>rfl,fun _ _ e=>e⟩
  refine⟨st.size,st.defers,fun t=>VY.aT kp (st.bC t),fun g ob hm=> ?_,?_,fun g hg=>st.keys g (kM g hg),st.frame⟩
  ·rcases Lb.1 hm with e|hm
   ·rw [Ab] at e
    obtain⟨e1,e2⟩:=e
    rw [e1,e2]
    clear hm e1 e2
    obtain⟨cs,hb,cn,hj⟩:=st.heap gT _ (Lf ..)
    refine⟨cs,hb,cn,fun j pT=> ?_⟩
    obtain⟨u,hu,hr⟩:=hj j pT
    refine⟨u,hu,?_⟩
    by_cases e:j=j0
    ·subst e
     rw [hf] at hr
     rw [PO]
     obtain⟨c,hv,hc,_,_⟩:=hr
     obtain⟨cs2,iE,hcs2,nK⟩:=st.heap gP _ gU
     refine⟨some ⟨gP,0,none⟩,c,hv,hc,fun _=>⟨⟨gP,0,none⟩,rfl,⟨.inr ((st.keys gP vu).resolve_left ho),st.jZ vu,?_⟩,fun q hq=> ?_⟩⟩
     ·simp only [Qa.keys,Ld,Lb,not_or]
      exact⟨fun e=>hTP e.symm,hPh⟩
     ·obtain⟨u2,hu2,vF⟩:=nK q hq
      exact⟨u2,by rw [Zr,Nz,YX iE];exact hu2,vF.aT kp⟩
    ·rw [PQ j pT e]
     exact hr.aT kp
   ·exact YN.aT kp rfl (st.heap g ob (Lm _ (Lm _ hm)))
  ·simp only [Qa.keys,Ld,List.nodup_cons]
   exact⟨hTh,hh⟩
theorem Z8 {t s n n':Nat} {og:Option Nat} {ty:TypeId} {f f':Nat→CV} (ax:og=none→n=0) (P9:n=n') (ht:σ.get t=.c (gs og s n)) (hn:∀g,og=some g→¬E.C.bO g) (hf:∀j,j<n*s→f j=f' j) (gX:σ.set t (.c (.row true s n' f'))=σ') (k:aw E K σ' h):aw E K σ (gh og ty (n*s) f++h):=by
 subst P9
 cases og with
 |none=>
  have h0:=ax rfl
  subst h0
  refine ZP (t:=t) (v:=.c (.row true s 0 f')) (fun S w u hr=> ?_) gX k
  rw [ht] at hr
  exact XK hr
 |some g=>
  refine B6 (t:=t) (g:=g) (s:=s) (off:=0) (n:=n) (m:=n*s) (ty:=ty) (f:=f) f' ht ?_ om (hn g rfl) (fun j hj=>by rw [Nz];exact hf j hj) gX ?_ k
  ·show Qa.get ((g,_)::h) g=_
   simp [Qa.get]
  ·show Qa.del ((g,_)::h) g=_
   simp [Qa.del]
end
end Go.AI
namespace Go.AI
attribute [go_sem] List.size_toArray Int.reduceBEq Int.reduceBNe Int.reduceLT Int.reduceLE Int.reduceGT Int.reduceGE decide_true decide_false
@[go_sem] theorem Qu9 (a b:Nat):((a+b:Nat):Int)=(a:Int)+(b:Int):=rfl
@[go_sem] theorem Qva:((1:Nat):Int)=1:=rfl
@[go_sem] theorem Qub:((0:Nat):Int)=0:=rfl
@[go_sem] theorem yM (a b:Nat):((a:Int)==(b:Int))=(a==b):=by rw [Bool.eq_iff_iff,beq_iff_eq,beq_iff_eq];omega
@[go_sem] theorem QxK (a k:Nat):((a:Int)==(no_index (OfNat.ofNat k):Int))=(a==OfNat.ofNat k):=yM a k
@[go_sem] theorem QxL (a:Nat):((a:Int)==0)=(a==0):=yM a 0
@[go_sem] theorem QxM (a:Nat):((a:Int)==1)=(a==1):=yM a 1
@[go_sem] theorem CS (a b:Nat):((a:Int) !=(b:Int))=(a !=b):=by unfold bne;rw [yM]
@[go_sem] theorem QxN (a k:Nat):((a:Int) !=(no_index (OfNat.ofNat k):Int))=(a !=OfNat.ofNat k):=CS a k
@[go_sem] theorem QxO (a:Nat):((a:Int) !=0)=(a !=0):=CS a 0
@[go_sem] theorem QxP (a:Nat):((a:Int) !=1)=(a !=1):=CS a 1
@[go_sem] theorem sS (a b:Nat):decide ((a:Int)<(b:Int))=decide (a<b):=by rw [decide_eq_decide];omega
@[go_sem] theorem Dc (a b:Nat):decide ((a:Int)≤(b:Int))=decide (a≤b):=by rw [decide_eq_decide];omega
@[go_sem] theorem QxR (a k:Nat):decide ((a:Int)<(no_index (OfNat.ofNat k):Int))=decide (a<OfNat.ofNat k):=sS a k
@[go_sem] theorem QxS (a k:Nat):decide ((a:Int)≤(no_index (OfNat.ofNat k):Int))=decide (a≤OfNat.ofNat k):=Dc a k
@[go_sem] theorem QxT (a k:Nat):decide ((a:Int)>(no_index (OfNat.ofNat k):Int))=decide (a>OfNat.ofNat k):=sS k a
@[go_sem] theorem QxU (a k:Nat):decide ((a:Int)≥(no_index (OfNat.ofNat k):Int))=decide (a≥OfNat.ofNat k):=Dc k a
@[go_sem] theorem QxV (a:Nat):decide ((a:Int)>0)=decide (0<a):=sS 0 a
@[go_sem] theorem QxW (a b:Nat):decide ((a:Int)≥(b:Int))=decide (a≥b):=Dc b a
@[go_sem] theorem QxX (a b:Nat):decide ((a:Int)>(b:Int))=decide (a>b):=sS b a
@[go_sem] theorem QxY (a b:Nat):decide ((a:Int)+1<(b:Int))=decide (a+1<b):=sS (a+1) b
@[go_sem] theorem QxZ (a:Nat):decide ((a:Int)<1)=decide (a<1):=sS a 1
@[go_sem] theorem Qtu (a:Nat):((a:Int)+1).toNat=a+1:=rfl
theorem QrG (l:List CV) (k:Nat) (c:CV) (h:k<l.length):(fun j=>if j=k then c else ao l j)=ao (l.set k c):=by
 funext j
 induction l generalizing k j with
 |nil=>simp at h
 |cons x l ih=>
  cases k with
  |zero=>cases j with
   |zero=>rfl
   |succ j=>rfl
  |succ k=>cases j with
   |zero=>rfl
   |succ j=>
    have:=ih k (by simpa using h) j
    simpa [ao] using this
@[go_sem] theorem Qvb (l:List CV) (k:Nat) (c:CV) (cs:List CV) (h:k<l.length):Vl (ao l) k (c::cs)=Vl (ao (l.set k c)) (k+1) cs:=by
  show Vl (fun j=>if j=k then c else ao l j) (k+1) cs=_
  rw [QrG l k c h]
@[go_sem] theorem Qvc (l:List CV) (k:Nat):Vl (ao l) k []=ao l:=rfl
theorem Qa.dD:∀{h:Qa} {g:Nat} {ob:XS},h.get g=some ob→h.Perm ((g,ob)::h.del g)
 |[],_,_,e=>by simp [Qa.get] at e
 |(g',x)::h,g,ob,e=>by
  by_cases hg:g'=g
  ·subst hg
   simp [Qa.get] at e
   subst e
   simp [Qa.del]
  ·simp only [Qa.get,iN hg] at e
   simp only [Qa.del,iN hg]
   exact((Qa.dD e).cons _).trans (List.Perm.swap _ _ _)
theorem Qa.set_perm:∀{h:Qa} {g:Nat} {ob ob':XS},h.get g=some ob→(h.set g ob').Perm ((g,ob')::h.del g)
 |[],_,_,_,e=>by simp [Qa.get] at e
 |(g',x)::h,g,ob,ob',e=>by
  by_cases hg:g'=g
  ·subst hg
   simp [Qa.set,Qa.del]
  ·simp only [Qa.get,iN hg] at e
   simp only [Qa.set,Qa.del,iN hg]
   exact((Qa.set_perm e).cons _).trans (List.Perm.swap _ _ _)
def Fg (P:Program) (f:FuncId) (g:Nat) (ob:XS) (args:List AV) (r:AV) (ob':XS):Prop:=Fh P f [(g,ob)] args fun x h=>x=r∧h=[(g,ob')]
section
variable {E : Vj} {K : List It} {σ σ' : Sl} {h : Qa} {all l rest : List Oper} {o : Oper}
theorem nY {f:FuncId} {xs:List Operand} {ts:Array TypeId} {g:Nat} {ob ob':XS} {args:List AV} {r:AV} (hf:Fg E.P f g ob args r ob') (au:o.op=.call {callee:=.value (.func f),args:=xs.toArray,argTypes:=ts}) (hw:Qu all σ o=some true) (hd:Qs E.N o.dst=true)
  (hg:h.get g=some ob) (le:JT [] (xs.map (ev σ)) args) (k:aw E (.ops all rest::K) (σ.az o.dst r) (h.set g ob')):aw E (.ops all (o::rest)::K) σ h:=by
 refine Qq hf au hw hd (hr:=h.del g) (Qa.dD hg) le ?_
 rintro _ _ ⟨rfl,rfl⟩ _
 exact Qj (Qa.set_perm hg).symm k
theorem VZ.RK {r:AV} (hw:Qu l σ o=some true) (hp:QB E.P h (ev σ) o.op r) (hd:Qs E.N o.dst=true):VZ E h l σ o r:=by
 refine⟨hd,fun σ' a w Q hs s=> ?_⟩
 rw [iP (s.wanted ((Xg hs).trans hw))]
 obtain⟨v,aR,hr⟩:=hp (QH E.C h w) w a.eval QH.dM (fun x hx=>by rw [←XD hx hs];exact QN s x) s.heap
 unfold Oper.wp
 rw [aR o rfl]
 exact s.put hd hr
theorem KR {n:Nat} {r:AV} (hp:QB E.P h (ev σ) o.op r) (hw:Qu l σ o=some true) (hd:Qs E.N o.dst=true) (k:YO E h l K n rest (σ.az o.dst r)):YO E h l K (n+1) (o::rest) σ:=Uk (VZ.RK hw hp hd) k
theorem Xh {r:AV} (hp:QB E.P h (ev σ) o.op r) (hw:Qu all σ o=some true) (hd:Qs E.N o.dst=true) (k:aw E (.ops all rest::K) (σ.az o.dst r) h):aw E (.ops all (o::rest)::K) σ h:=xK hw hp hd rfl k
theorem Z1 {FP:Qa} {i:Nat} {cs:List (Nat×Nat)} {r:AV} (ho:l[i]?=some o) (hp:∀h,Kq FP h→QB E.P h (ev σ) o.op r) (hw:Qu l σ o=some true) (hd:Qs E.N o.dst=true) (k:CW E l K FP cs (σ.az o.dst r) h):CW E l K FP ((i,0)::cs) σ h:=
 .pF ho ⟨hd,fun h rz=>VZ.RK hw (hp h rz) hd⟩ k
theorem yA1 {F X G:Prop} (f:F) (x:X) (k:F→X6 X→G:=by
 intro f x
 (first|apply fy|apply nr|apply sw|apply sz|apply tM rfl|apply jP|apply ql|(refine nQ rfl fun R r=>?_;simp only[go_sem,f];with_reducible show R (some _);with_reducible refine r _ _ ?_;clear r R)|apply qm|(refine nT rfl fun R r=>?_;simp only[go_sem,f];with_reducible show R (some _);with_reducible refine r _ _ ?_;clear r R))
 (repeat first|apply fy|apply nr|apply sw|apply sz|apply tM rfl|apply jP|apply ql|(refine nQ rfl fun R r=>?_;simp only[go_sem,f];with_reducible show R (some _);with_reducible refine r _ _ ?_;clear r R)|apply qm|(refine nT rfl fun R r=>?_;simp only[go_sem,f];with_reducible show R (some _);with_reducible refine r _ _ ?_;clear r R))
 exact x.out):G:=k f ⟨x⟩
theorem o5 {F P:Prop} (f:F) (k:F→P:=by intro f;first|exact True.intro|(simp only[go_sem,f]<;>and_intros<;>first|exact True.intro|exact .c (.refl _)|exact .c gN|exact .agg (Zf _)|(refine .agg ?_;simp only[gQ];and_intros<;>first|exact True.intro|exact .refl _|exact gN|exact .ab)|exact .c .ab)):P:=k f
theorem tN {f:FuncId} {xs:List Operand} {ts:Array TypeId} {args:List AV} {r:AV} {X F:Prop} (q:F) (hf:Fa E.P f args r) (x:X) (au:o.op=.call {callee:=.value (.func f),args:=xs.toArray,argTypes:=ts}:=by exact rfl) (hw:Qu all σ o=some true:=by exact rfl) (hd:Qs E.N o.dst=true:=by exact rfl)
 (le:F→JT h (xs.map (ev σ)) args:=by intro f;first|exact True.intro|(simp only[go_sem,f]<;>and_intros<;>first|exact True.intro|exact .c (.refl _)|exact .c gN|exact .agg (Zf _)|(refine .agg ?_;simp only[gQ];and_intros<;>first|exact True.intro|exact .refl _|exact gN|exact .ab)|exact .c .ab)) (k:F→X6 X→aw E (.ops all rest::K) (σ.az o.dst r) h:=by intro f x;(try simp only[go_sem,f]);exact x.out):aw E (.ops all (o::rest)::K) σ h:=Qr hf au hw hd (le q) (k q ⟨x⟩)
theorem tP {f:FuncId} {xs:List Operand} {ts:Array TypeId} {args:List AV} {r:AV} {n:Nat} {X F:Prop} (q:F) (hf:Fa E.P f args r) (x:X) (au:o.op=.call {callee:=.value (.func f),args:=xs.toArray,argTypes:=ts}:=by exact rfl) (hw:Qu l σ o=some true:=by exact rfl) (hd:Qs E.N o.dst=true:=by exact rfl)
 (le:F→JT h (xs.map (ev σ)) args:=by intro f;first|exact True.intro|(simp only[go_sem,f]<;>and_intros<;>first|exact True.intro|exact .c (.refl _)|exact .c gN|exact .agg (Zf _)|(refine .agg ?_;simp only[gQ];and_intros<;>first|exact True.intro|exact .refl _|exact gN|exact .ab)|exact .c .ab)) (k:F→X6 X→YO E h l K n rest (σ.az o.dst r):=by intro f x;(try simp only[go_sem,f]);exact x.out):YO E h l K (n+1) (o::rest) σ:=wP hf au hw hd (le q) (k q ⟨x⟩)
theorem tO {f:FuncId} {xs:List Operand} {ts:Array TypeId} {args:List AV} {r:AV} {X F:Prop} (q:F) (hf:Vk E.C E.P f args r) (x:X) (au:o.op=.call {callee:=.value (.func f),args:=xs.toArray,argTypes:=ts}:=by exact rfl) (hw:Qu all σ o=some true:=by exact rfl) (hd:Qs E.N o.dst=true:=by exact rfl)
 (le:F→JT h (xs.map (ev σ)) args:=by intro f;first|exact True.intro|(simp only[go_sem,f]<;>and_intros<;>first|exact True.intro|exact .c (.refl _)|exact .c gN|exact .agg (Zf _)|(refine .agg ?_;simp only[gQ];and_intros<;>first|exact True.intro|exact .refl _|exact gN|exact .ab)|exact .c .ab)) (k:F→X6 X→aw E (.ops all rest::K) (σ.az o.dst r) h:=by intro f x;(try simp only[go_sem,f]);exact x.out):aw E (.ops all (o::rest)::K) σ h:=Hk hf au hw hd (le q) rfl (k q ⟨x⟩)
theorem wj {f:FuncId} {xs:List Operand} {ts:Array TypeId} {args:List AV} {r:AV} {n:Nat} {X F:Prop} (q:F) (hf:Vk E.C E.P f args r) (x:X) (au:o.op=.call {callee:=.value (.func f),args:=xs.toArray,argTypes:=ts}:=by exact rfl) (hw:Qu l σ o=some true:=by exact rfl) (hd:Qs E.N o.dst=true:=by exact rfl)
 (le:F→JT h (xs.map (ev σ)) args:=by intro f;first|exact True.intro|(simp only[go_sem,f]<;>and_intros<;>first|exact True.intro|exact .c (.refl _)|exact .c gN|exact .agg (Zf _)|(refine .agg ?_;simp only[gQ];and_intros<;>first|exact True.intro|exact .refl _|exact gN|exact .ab)|exact .c .ab)) (k:F→X6 X→YO E h l K n rest (σ.az o.dst r):=by intro f x;(try simp only[go_sem,f]);exact x.out):YO E h l K (n+1) (o::rest) σ:=Qms hf au hw hd (le q) (k q ⟨x⟩)
end
end Go.AI
namespace Go.PN
def KO (n:Nat):Bool:=(decide (65≤n)&&decide (n≤90))||(decide (97≤n)&&decide (n≤122))
def QE (n:Nat):Bool:=decide (48≤n)&&decide (n≤57)
def Yf (n:Nat):Bool:=((KO n||QE n)||n==95)||n==46
def nZ (n:Nat):Bool:=n==32||(n==9||(n==10||n==13))
def qG (n:Nat):Bool:=n==123||(n==125||(n==59||(n==58||n==64)))
theorem xQ (l:BS) (i:Nat):XE l i<256:=UInt8.toNat_lt _
def Xm (p:Nat→Bool) (l:BS) (i:Nat):Nat:=i+((l.drop i).takeWhile fun b=>p b.toNat).length
theorem Z9 (p:Nat→Bool) (l:BS) (i:Nat):i≤Xm p l i:=Nat.le_add_right ..
theorem UB {p:Nat→Bool} {l:BS} {i:Nat} (h:i≤l.length):Xm p l i≤l.length:=by
 unfold Xm
 have h1:((l.drop i).takeWhile fun b=>p b.toNat).length≤(l.drop i).length:=(List.takeWhile_sublist _).length_le
 rw [List.length_drop] at h1
 omega
theorem UC {p:Nat→Bool} {l:BS} {i:Nat} (h:l.length≤i):Xm p l i=i:=by
 unfold Xm
 rw [List.drop_eq_nil_of_le h];rfl
theorem HA {l:BS} {i:Nat} (h:i<l.length):l.drop i=l[i]::l.drop (i+1):=List.drop_eq_getElem_cons h
theorem Ck {l:BS} {i:Nat} (h:i<l.length):XE l i=l[i].toNat:=by
 unfold XE
 rw [Lg,Li h];rfl
theorem ZU {p:Nat→Bool} {l:BS} {i:Nat} (h:i<l.length) (hp:p (XE l i)=true):Xm p l i=Xm p l (i+1):=by
 unfold Xm
 rw [HA h,List.takeWhile_cons_of_pos (by rw [←Ck h];exact hp),Lc]
 omega
theorem WU {p:Nat→Bool} {l:BS} {i:Nat} (h:i<l.length) (hp:p (XE l i)=false):Xm p l i=i:=by
 unfold Xm
 rw [HA h,List.takeWhile_cons_of_neg (by rw [←Ck h,hp];simp)]
 rfl
theorem HB {p:Nat→Bool} {l:BS}:∀(k i:Nat),Xm p l i=i+k→∀j,i≤j→j<i+k→p (XE l j)=true:=by
 intro k
 induction k with
 |zero=>intro i _ j h1 h2;omega
 |succ k ih=>
  intro i h j h1 h2
  by_cases hi:i<l.length
  ·cases hp:p (XE l i) with
   |false=>rw [WU hi hp] at h;omega
   |true=>
    by_cases e:j=i
    ·rw [e];exact hp
    ·rw [ZU hi hp] at h
     exact ih (i+1) om j om om
  ·rw [UC om] at h;omega
theorem HC {p:Nat→Bool} {l:BS} {i:Nat} (h:Xm p l i<l.length):p (XE l (Xm p l i))=false:=by
 generalize hk:l.length-i=k
 induction k generalizing i with
 |zero=>have:=Z9 p l i;omega
 |succ k ih=>
  have hi:i<l.length:=by omega
  cases hp:p (XE l i) with
  |false=>rw [WU hi hp];exact hp
  |true=>rw [ZU hi hp] at h⊢;exact ih h om
def Va (l:BS) (i:Nat):Nat:=
 if Xm QE l i+1<l.length∧(XE l (Xm QE l i)=46∨XE l (Xm QE l i)=47)∧QE (XE l (Xm QE l i+1))=true then Xm QE l (Xm QE l i+1) else Xm QE l i
theorem QrH (l:BS) (i:Nat):i≤Va l i:=by
 have h1:=Z9 QE l i
 have h2:=Z9 QE l (Xm QE l i+1)
 unfold Va
 split<;>omega
theorem Mr {l:BS} {i:Nat} (h:i≤l.length):Va l i≤l.length:=by
 unfold Va
 split
 ·rename_i h1;exact UB om
 ·exact UB h
structure TK where
 kind:Nat
 text:BS
deriving DecidableEq,Inhabited
theorem Qo2 {l:BS} {i e:Nat} (he:e≤l.length):(Vn l i e).length=e-i:=by
 unfold Vn
 rw [List.length_take,List.length_drop];omega
inductive Stp where
 |err (c:Int)
 |skip (e:Nat)
 |tok (k e:Nat)
def ZI (l:BS) (i:Nat):Stp:=
 if nZ (XE l i) then .skip (i+1)
 else if XE l i=35 then .skip (Xm (fun b=>b !=10) l i)
 else if KO (XE l i) then(if Xm Yf l i-i>24 then .err 5 else .tok 0 (Xm Yf l i))
 else if QE (XE l i) then(if Va l i<l.length∧(Yf (XE l (Va l i))=true∨XE l (Va l i)=47) then .err 2 else .tok 1 (Va l i))
 else if qG (XE l i) then .tok 2 (i+1)
 else .err 2
theorem Gl {n:Nat} (h:KO n=true):Yf n=true:=by unfold Yf;rw [h];rfl
theorem U8 {l:BS} {i e:Nat} (hi:i<l.length) (h:ZI l i=.skip e):i<e∧e≤l.length:=by
 unfold ZI at h
 split at h
 ·injection h with h;omega
 ·split at h
  ·rename_i eT
   injection h with h
   have h1:=ZU (p:=fun b=>b !=10) hi (by rw [eT];rfl)
   have h2:=Z9 (fun b=>b !=10) l (i+1)
   have h3:=UB (p:=fun b=>b !=10) (l:=l) (i:=i) om
   omega
  ·split at h
   ·split at h<;>cases h
   ·split at h
    ·split at h<;>cases h
    ·split at h<;>cases h
theorem VE {l:BS} {i k e:Nat} (hi:i<l.length) (h:ZI l i=.tok k e):i<e∧e≤l.length:=by
 unfold ZI at h
 split at h
 ·cases h
 ·split at h
  ·cases h
  ·split at h
   ·rename_i hl
    split at h
    ·cases h
    ·injection h with _ h
     have h1:=ZU (p:=Yf) hi (Gl hl)
     have h2:=Z9 Yf l (i+1)
     have h3:=UB (p:=Yf) (l:=l) (i:=i) om
     omega
   ·split at h
    ·rename_i hd
     split at h
     ·cases h
     ·injection h with _ h
      have h1:=ZU (p:=QE) hi hd
      have h2:=Z9 QE l (i+1)
      have h3:=Mr (l:=l) (i:=i) om
      have h4:Xm QE l i≤Va l i:=by
       have:=Z9 QE l (Xm QE l i+1)
       unfold Va
       split<;>omega
      omega
    ·split at h
     ·injection h with _ h;omega
     ·cases h
def Yj (l:BS):Nat→Nat→List TK→Int×List TK
 |0,_,out=>(0,out)
 |n+1,i,out=>if i<l.length then(match ZI l i with
  |.err c=>(c,[])
  |.skip e=>Yj l n e out
  |.tok k e=>Yj l n e (out++[⟨k,Vn l i e⟩])) else(0,out)
theorem FD {l:BS}:∀(n m i:Nat) (out:List TK),l.length-i≤n→l.length-i≤m→Yj l n i out=Yj l m i out:=by
 intro n
 induction n with
 |zero=>
  intro m i out h1 h2
  cases m with
  |zero=>rfl
  |succ m=>unfold Yj;rw [iN om]
 |succ n ih=>
  intro m i out h1 h2
  cases m with
  |zero=>unfold Yj;rw [iN om]
  |succ m=>
   unfold Yj
   by_cases hi:i<l.length
   ·rw [iP hi,iP hi]
    cases hs:ZI l i with
    |err c=>rfl
    |skip e=>have:=U8 hi hs;exact ih m e out om om
    |tok k e=>have:=VE hi hs;exact ih m e _ om om
   ·rw [iN hi,iN hi]
def XL (l:BS):Int×List TK:=if l.length>65536 then(4,[]) else Yj l l.length 0 []
theorem WV {l:BS} {i:Nat} {out:List TK} (hi:i<l.length):Yj l (l.length-i) i out=(match ZI l i with
  |.err c=>(c,[])
  |.skip e=>Yj l (l.length-e) e out
  |.tok k e=>Yj l (l.length-e) e (out++[⟨k,Vn l i e⟩])):=by
 obtain⟨n,hn⟩:∃n,l.length-i=n+1:=⟨l.length-i-1,by omega⟩
 rw [hn]
 show(if i<l.length then _ else _)=_
 rw [iP hi]
 cases hs:ZI l i with
 |err c=>rfl
 |skip e=>have:=U8 hi hs;exact FD _ _ _ _ om om
 |tok k e=>have:=VE hi hs;exact FD _ _ _ _ om om
theorem Tf {l:BS} {i:Nat} {out:List TK} (hi:l.length≤i):Yj l (l.length-i) i out=(0,out):=by
 rw [show l.length-i=0 from by omega];rfl
structure QwK (t:TK):Prop where
 kind:t.kind≤2
 ne:t.text≠[]
 word:t.kind=0→KO (XE t.text 0)=true
 num:t.kind=1→QE (XE t.text 0)=true
 Uc:t.kind=2→t.text.length=1∧qG (XE t.text 0)=true
end Go.PN
namespace Go.AI
structure Bq (b:Bool) (p q:Prop):Prop where
 t:b=true→p
 f:b=false→q
theorem Dk {p:Prop} [Decidable p]:Bq (decide p) p (¬p):=⟨of_decide_eq_true,of_decide_eq_false⟩
theorem Dl {α:Type} [BEq α] [LawfulBEq α] {a b:α}:Bq (a==b) (a=b) (a≠b):=⟨fun e=>by simpa using e,fun e=>by simpa using e⟩
theorem Dn {α:Type} [BEq α] [LawfulBEq α] {a b:α}:Bq (a !=b) (a≠b) (a=b):=⟨fun e=>by simpa using e,fun e=>by simpa using e⟩
theorem Dm {α:Type} [BEq α] [LawfulBEq α] {a b:α}:Bq (!(a==b)) (a≠b) (a=b):=⟨fun e=>by simpa using e,fun e=>by simpa using e⟩
theorem Dp {b:Bool}:Bq b (b=true) (b=false):=⟨id,id⟩
theorem Dj:Bq true (true=true) (true=false):=⟨id,id⟩
theorem Di:Bq false (false=true) (false=false):=⟨id,id⟩
section
variable {E : Vj} {K : List It} {σ : Sl} {h : Qa} {all l rest : List Oper} {o : Oper} {F X Y : Prop}
theorem zW {t g off m n:Nat} {ty:TypeId} {ag:Bool} {fc:Nat→CV} {a y:Operand} {v:AV} {h':Qa} (q:F) (x:X) (au:o.op=.store t a y:=by exact rfl) (hw:Qu all σ o=some true:=by exact rfl) (hd:Qs E.N o.dst=true:=by exact rfl) (hY:o.dst=none:=by exact rfl) (ha:F→ev σ a=.c (.aj g off):=by intro f;simp only[go_sem,f]<;>rfl) (hx:F→ev σ y=v:=by intro f;simp only[go_sem,f]<;>rfl)
 (hg:F→h.get g=some (.cells ty m fc):=by intro f;simp only[go_sem,f]<;>rfl) (ht:F→XC E.P t=some (ag,n):=by intro f;simp only[go_sem,f]<;>rfl) (gj:∀xs,v≠.aF xs:=by exact fun _ e=>by cases e) (hs:v.cells.all CV.aX=true:=by first|rfl|exact dR) (hlen:v.cells.length=n:=by rfl) (hle:off+n≤m:=by first|omega|simp)
 (hh:h.set g (.cells ty m (Vl fc off v.cells))=h':=by exact rfl) (k:F→X6 X→aw E (.ops all rest::K) σ h':=by intro f x;(try simp only[go_sem,f]);exact x.out):aw E (.ops all (o::rest)::K) σ h:=Kn au hw hd hY (ha q) (hx q) (hg q) (ht q) gj hs hlen hle hh (k q ⟨x⟩)
theorem zg {f:FuncId} {xs:List Operand} {ts:Array TypeId} {g:Nat} {ob ob':XS} {args:List AV} {r:AV} (q:F) (hf:Fg E.P f g ob args r ob') (x:X) (au:o.op=.call {callee:=.value (.func f),args:=xs.toArray,argTypes:=ts}:=by exact rfl) (hw:Qu all σ o=some true:=by exact rfl) (hd:Qs E.N o.dst=true:=by exact rfl)
 (hg:F→h.get g=some ob:=by intro f;simp only[go_sem,f]<;>rfl) (le:F→JT [] (xs.map (ev σ)) args:=by intro f;exact o5 f) (k:F→X6 X→aw E (.ops all rest::K) (σ.az o.dst r) (h.set g ob'):=by intro f x;(try simp only[go_sem,f]);exact x.out):aw E (.ops all (o::rest)::K) σ h:=nY hf au hw hd (hg q) (le q) (k q ⟨x⟩)
theorem zC {t:Nat} {y z:Code} {b:Bool} {p1 p2:Prop} (q:F) (k1:p1→aw E (.code y::K) σ h) (k2:p2→aw E (.code z::K) σ h) (hb:F→σ.get t=.c (.bool b):=by intro f;simp only[go_sem,f]<;>rfl) (hp:Bq b p1 p2:=by first|(with_reducible exact Dk)|(with_reducible exact Dl)|(with_reducible exact Dn)|(with_reducible exact Dm)|((fail_if_success (with_reducible exact Dj));(fail_if_success (with_reducible exact Di));exact Dp)):aw E (.code (.cond (.tmp t) y z)::K) σ h:=
 QQ (hb q) (fun e=>k1 (hp.t e)) fun e=>k2 (hp.f e)
theorem zG {t j:Nat} {want b:Bool} {p1 p2:Prop} (q:F) (x:p1→X) (y:p2→Y) (hg:o.guard=some (j,want):=by exact rfl) (hj:(all[j]?).bind (·.dst)=some t:=by exact rfl) (hb:F→σ.get t=.c (.bool b):=by intro f;simp only[go_sem,f]<;>rfl) (hp:Bq b p1 p2:=by first|(with_reducible exact Dk)|(with_reducible exact Dl)|(with_reducible exact Dn)|(with_reducible exact Dm)|((fail_if_success (with_reducible exact Dj));(fail_if_success (with_reducible exact Di));exact Dp))
 (k1:F→X6 X→aw E (.ops all (o::rest)::K) (σ.set t (.c (.bool true))) h:=by intro f x;(try simp only[go_sem,f]);exact x.out) (k2:F→X6 Y→aw E (.ops all (o::rest)::K) (σ.set t (.c (.bool false))) h:=by intro f x;(try simp only[go_sem,f]);exact x.out):aw E (.ops all (o::rest)::K) σ h:=YF t (hb q) (fun e=>k1 q ⟨x (hp.t e)⟩) fun e=>k2 q ⟨y (hp.f e)⟩
theorem zD {t j n:Nat} {want b:Bool} {p1 p2:Prop} (q:F) (x:p1→X) (y:p2→Y) (hg:o.guard=some (j,want):=by exact rfl) (hj:(l[j]?).bind (·.dst)=some t:=by exact rfl) (hb:F→σ.get t=.c (.bool b):=by intro f;simp only[go_sem,f]<;>rfl) (hp:Bq b p1 p2:=by first|(with_reducible exact Dk)|(with_reducible exact Dl)|(with_reducible exact Dn)|(with_reducible exact Dm)|((fail_if_success (with_reducible exact Dj));(fail_if_success (with_reducible exact Di));exact Dp))
 (k1:F→X6 X→YO E h l K n (o::rest) (σ.set t (.c (.bool true))):=by intro f x;(try simp only[go_sem,f]);exact x.out) (k2:F→X6 Y→YO E h l K n (o::rest) (σ.set t (.c (.bool false))):=by intro f x;(try simp only[go_sem,f]);exact x.out):YO E h l K n (o::rest) σ:=Bb t (hb q) (fun e=>k1 q ⟨x (hp.t e)⟩) fun e=>k2 q ⟨y (hp.f e)⟩
theorem zV {G:Prop} (f:F) (x:X) (k:F→X6 X→G:=by intro f x;first|exact yA1 f x.out|exact zW f x.out|exact yP f x.out|exact yN f x.out|fail):G:=k f ⟨x⟩
theorem zH {G p q:Prop} (f:F) (x:p→X) (y:q→Y) (k:F→X6 (p→X)→X6 (q→Y)→G:=by intro f x y;first|exact zC f x.out y.out|exact zG f x.out y.out|exact zD f x.out y.out|fail):G:=k f ⟨x⟩ ⟨y⟩
end
end Go.AI
namespace Go.AI
theorem yQ {F A X G:Prop} (f:F) (a:A) (x:X) (k:F→A→X6 X→G:=by intro f a x;first|exact tN f a x.out|exact tP f a x.out|exact zg f a x.out|fail):G:=k f a ⟨x⟩
theorem zA {F X G:Prop} (f:F) (x:X) (k:F→X6 X→G:=by intro f x;((repeat' first|refine zV f ?_|fail);exact x.out)):G:=k f ⟨x⟩
theorem Zg {F A X G:Prop} (f:F) (a:A) (x:X) (k:F→A→X6 X→G:=by intro f a x;((repeat' first|refine zV f ?_|refine yQ f a ?_|fail);exact x.out)):G:=k f a ⟨x⟩
theorem mv {F A B X G:Prop} (f:F) (a:A) (b:B) (x:X) (k:F→A→B→X6 X→G:=by intro f a b x;((repeat' first|refine zV f ?_|refine yQ f a ?_|refine yQ f b ?_|fail);exact x.out)):G:=k f a b ⟨x⟩
theorem RY {F A B C X G:Prop} (f:F) (a:A) (b:B) (c:C) (x:X) (k:F→A→B→C→X6 X→G:=by intro f a b c x;((repeat' first|refine zV f ?_|refine yQ f a ?_|refine yQ f b ?_|refine yQ f c ?_|fail);exact x.out)):G:=k f a b c ⟨x⟩
theorem Fc {F A B C D X G:Prop} (f:F) (a:A) (b:B) (c:C) (d:D) (x:X) (k:F→A→B→C→D→X6 X→G:=by intro f a b c d x;((repeat' first|refine zV f ?_|refine yQ f a ?_|refine yQ f b ?_|refine yQ f c ?_|refine yQ f d ?_|fail);exact x.out)):G:=k f a b c d ⟨x⟩
end Go.AI
namespace Go.AI
open Go.PN
theorem QB.indexByte {P:Program} {h:Qa} {ρ:Operand→AV} {f:FuncId} {fn:Func} {x y:Operand} {ts:Array TypeId} {l:BS} {c:Int} (hf:P.funcs[f]?=some fn) (eJ:(fn.name== "runtime.NumGoroutine")=false) (hb:fn.body.isNone=true) (hn:Extern.findNext fn=none) (he:Extern.find fn=some Extern.BytealgIndexByte.indexByte) (hk:ρ (.func f)=.c (.raw (.func (.func f) #[] #[]))) (hx:ρ x=.c (.str (sB l))) (hy:ρ y=.c (.int .u8 c)):
  QB P h ρ (.call {callee:=.value (.func f),args:= #[x,y],argTypes:=ts}) (.c (.int .i64 (Lib.indexByte l c.toNat.toUInt8))):=fun S w e _ ho _=>by
 have h1:e x=.string (sB l):=by have:=ho x (by simp [Op.operands,Call.operands]);rw [hx] at this;exact this
 have h2:e y=.int .u8 c:=by have:=ho y (by simp [Op.operands,Call.operands]);rw [hy] at this;exact this
 refine⟨.int .i64 (Lib.indexByte l c.toNat.toUInt8),fun o au=> ?_,rfl⟩
 have:=run_callFunc_extern (P:=P) hf eJ hb hn he #[.string (sB l),.int .u8 c] w
 rw [Lib.run_indexByteString] at this
 have h3:=ho (.func f) (by simp [Op.operands,Call.operands])
 rw [hk] at h3
 have ox:e (.func f)=.func (.func f) #[] #[]:=h3
 simp [execOp,au,resolve,invoke,ox,h1,h2,Deferred.ofValue,this,Result.andThen]
end Go.AI
namespace Go.PN
theorem Ms (l:BS) (c:UInt8):decide (Lib.indexByte l c≥0)=l.contains c:=by
 induction l with
 |nil=>rfl
 |cons b l ih=>
  rw [List.contains_cons]
  unfold Lib.indexByte
  by_cases h:b=c
  ·subst h;simp
  ·have h1:(b==c)=false:=by simpa using h
   have h2:(c==b)=false:=by simpa using fun e=>h e.symm
   rw [h1,h2,Bool.false_or,←ih]
   by_cases h3:Lib.indexByte l c= -1
   ·rw [h3];rfl
   ·have:(Lib.indexByte l c== -1)=false:=by simpa using h3
    rw [this]
    have h4: -1≤Lib.indexByte l c:=by
     clear ih h1 h2 this h h3
     induction l with
     |nil=>unfold Lib.indexByte;decide
     |cons b l ih=>
      unfold Lib.indexByte
      split
      ·decide
      ·split
       ·decide
       ·omega
    simp only [Bool.false_eq_true,if_false]
    rw [decide_eq_decide]
    omega
theorem Qud:∀n:Nat,n<256→[123,125,59,58,64].contains (n.toUInt8)=qG n:=by decide
theorem Que:∀n:Nat,n<256→[32,9,10,13].contains (n.toUInt8)=nZ n:=by decide
end Go.PN
namespace Go.Proofs.YtjegkdadeghpjaaGreatDoor
open Go.AI Go.PN Proofs.Tryz
attribute [local irreducible] aw Fa VA Vk Fh YO
theorem Cl (n:Nat):Fa prog 184 [.c (.int .u8 n)] (.c (.bool (KO n))):=by
 refine fA func184 fun C hC=>?_
 repeat' first|refine zV o0 ?_|refine zH o0 ?_ ?_<;>intro hb|fail
 all_goals
  refine xT hC ?_
  exact .one (.c (Qe (by rw [Bool.eq_iff_iff];simp [KO];omega)))
theorem JK (n:Nat):Fa prog 270 [.c (.int .u8 n)] (.c (.bool (QE n))):=by
 refine fA func270 fun C hC=>?_
 repeat' first|refine zV o0 ?_|refine zH o0 ?_ ?_<;>intro hb|fail
 all_goals
  refine xT hC ?_
  exact .one (.c (Qe (by rw [Bool.eq_iff_iff];simp [QE];omega)))
theorem Mt (n:Nat):Fa prog 140 [.c (.int .u8 n)] (.c (.bool (KO n))):=by
 refine fA func140 fun C hC=>?_
 repeat' first|refine zV o0 ?_|refine zH o0 ?_ ?_<;>intro hb|fail
 all_goals
  refine xT hC ?_
  exact .one (.c (Qe (by rw [Bool.eq_iff_iff];simp [KO];omega)))
theorem QrI (n:Nat):Fa prog 258 [.c (.int .u8 n)] (.c (.bool (QE n))):=by
 refine fA func258 fun C hC=>?_
 repeat' first|refine zV o0 ?_|refine zH o0 ?_ ?_<;>intro hb|fail
 all_goals
  refine xT hC ?_
  exact .one (.c (Qe (by rw [Bool.eq_iff_iff];simp [QE];omega)))
theorem QrJ (n:Nat):Fa prog 141 [.c (.int .u8 n)] (.c (.bool (Yf n))):=by
 refine fA func141 fun C hC=>?_
 repeat' first|refine zV o0 ?_|refine yQ o0 (Mt _) ?_|refine yQ o0 (QrI _) ?_|refine zH o0 ?_ ?_<;>intro hb|fail
 all_goals
  refine xT hC ?_
  exact .one (.c (Qe (by rw [Bool.eq_iff_iff];simp_all [Yf];try omega)))
theorem MX (l:BS) (c:Nat):Fa prog 365 [.c (.str (sB l)),.c (.int .u8 c)] (.c (.int .i64 (Lib.indexByte l c.toUInt8))):=by
 refine fA func365 fun C hC=>?_
 refine xG ?_
 refine Xh (QB.indexByte func381 rfl rfl rfl rfl eE rfl eE) rfl rfl ?_
 refine JW hC ?_
 exact .one (.c (.int _ _))
theorem MY (l:BS) (c:Nat):Fa prog 339 [.c (.str (sB l)),.c (.int .u8 c)] (.c (.int .i64 (Lib.indexByte l c.toUInt8))):=by
 refine fA func339 fun C hC=>?_
 refine Zg o0 (MX l c) ?_
 refine xT hC ?_
 exact .one (.c (.int _ _))
theorem Mu (n:Nat) (hn:n<256):Fa prog 272 [.c (.int .u8 n)] (.c (.bool (qG n))):=by
 refine fA func272 fun C hC=>?_
 refine Zg o0 (MY [123,125,59,58,64] n) ?_
 refine xT hC ?_
 exact .one (.c (Qe (by rw [Ms,Qud n hn])))
theorem Mv (n:Nat) (hn:n<256):Fa prog 269 [.c (.int .u8 n)] (.c (.bool (nZ n))):=by
 refine fA func269 fun C hC=>?_
 refine Zg o0 (MY [32,9,10,13] n) ?_
 refine xT hC ?_
 exact .one (.c (Qe (by rw [Ms,Que n hn])))
end Go.Proofs.YtjegkdadeghpjaaGreatDoor
namespace Go.PN
def pc (s:BS):Bool:=decide (0<s.length)&&decide (s.length≤24)&&KO (XE s 0)&&decide (Xm Yf s 0=s.length)
theorem Gm {p:Nat→Bool} {l:BS}:∀(k i:Nat),l.length=i+k→(∀j,i≤j→j<l.length→p (XE l j)=true)→Xm p l i=l.length
 |0,i,h,_=>by rw [UC om];omega
 |k+1,i,h,hp=>by rw [ZU om (hp i om om)];exact Gm k (i+1) om fun j h1 h2=>hp j om h2
theorem Qo5 {l:BS} (h:¬(0<l.length∧l.length≤24)∨KO (XE l 0)=false):pc l=false:=by
 unfold pc
 rcases h with h|h
 ·rw [←Bool.decide_and,De h];rfl
 ·rw [h];simp
end Go.PN
namespace Go.Proofs.YtjegkdadeghpjaaGreatDoor
open Go.AI Go.PN Proofs.Tryz
attribute [local irreducible] aw Fa VA Vk Fh YO
theorem BT (l:BS) (i:Nat) (hl:l.length≤1099511627776) (hi:i≤l.length):Fa prog 340 [.c (.str (sB l)),.c (.int .i64 i)] (.c (.int .i64 (Xm QE l i:Nat))):=by
 refine fA func340 fun C hC=>?_
 refine xG ?_
 generalize hS:Xm QE l i=S
 refine Qh (fun x:Nat=>[(0,.c (.str (sB l))),(1,.c (.int .i64 x))]) (fun _=>[]) (fun x=>x≤l.length∧Xm QE l x=S) (fun x=>l.length-x) i eB zZ ⟨hi,hS⟩ ?_
 rintro x ⟨hx,hs⟩
 repeat' first|refine zV o0 ?_|refine yQ o0 (JK _) ?_|refine zH o0 ?_ ?_<;>intro hb|fail
 ·refine Qb ⟨x+1,by omega,eB,zZ,by omega,?_⟩
  rw [←ZU om (by assumption)];exact hs
 all_goals
  refine xT hC ?_
  refine .one (.c (Qn ?_))
 ·rw [←hs,WU om (by assumption)]
 ·rw [←hs,UC om]
theorem BU (l:BS) (i:Nat) (hl:l.length≤1099511627776) (hi:i≤l.length):Fa prog 185 [.c (.str (sB l)),.c (.int .i64 i)] (.c (.int .i64 (Xm Yf l i:Nat))):=by
 refine fA func185 fun C hC=>?_
 refine xG ?_
 generalize hS:Xm Yf l i=S
 refine Qh (fun x:Nat=>[(0,.c (.str (sB l))),(1,.c (.int .i64 x))]) (fun _=>[]) (fun x=>x≤l.length∧Xm Yf l x=S) (fun x=>l.length-x) i eB zZ ⟨hi,hS⟩ ?_
 rintro x ⟨hx,hs⟩
 repeat' first|refine zV o0 ?_|refine yQ o0 (Cl _) ?_|refine yQ o0 (JK _) ?_|refine zH o0 ?_ ?_<;>intro hb|fail
 all_goals first
  |(refine Qb ⟨x+1,by omega,eB,zZ,by omega,?_⟩
    rw [←ZU om (by unfold Yf;simp_all)];exact hs)
  |(refine xT hC ?_
    refine .one (.c (Qn ?_))
    first
     |(rw [←hs,UC om];done)
     |(rw [←hs,WU om (by unfold Yf;simp_all)]))
theorem Qvy {l:BS} {i:Nat} (hl:l.length≤1099511627776) (hi:i≤l.length):∃e,Xm QE l i=e∧e≤l.length:=⟨_,rfl,UB hi⟩
theorem Cm (l:BS) (i:Nat) (hl:l.length≤1099511627776) (hi:i≤l.length):Fa prog 271 [.c (.str (sB l)),.c (.int .i64 i)] (.c (.int .i64 (Va l i:Nat))):=by
 unfold Va
 have h1:=BT l i hl hi
 obtain⟨e,he,vj⟩:=Qvy hl hi
 rw [he] at h1⊢
 refine fA func271 fun C hC=>?_
 repeat' first|refine zV o0 ?_|refine yQ o0 h1 ?_|refine yQ o0 (JK _) ?_|(refine tN o0 (BT l (e+1) hl ?_) ?_;· omega)|(refine tP o0 (BT l (e+1) hl ?_) ?_;· omega)|refine zH o0 ?_ ?_<;>intro hb|fail
 all_goals
  refine xT hC ?_
  refine .one (.c (Qn ?_))
  split<;>simp_all<;>omega
theorem Jh (l:BS) (hl:l.length≤1099511627776):Fa prog 117 [.c (.str (sB l))] (.c (.bool (pc l))):=by
 have hw:=BU l 0 hl (Lz _)
 unfold pc
 refine fA func117 fun C hC=>?_
 repeat' first|refine zV o0 ?_|refine yQ o0 (Cl _) ?_|refine yQ o0 hw ?_|refine zH o0 ?_ ?_<;>intro hb|fail
 all_goals
  refine xT hC ?_
  refine .one (.c (Qe ?_))
  first|(simp_all;done)|(simp_all;omega)|(rw [Bool.eq_iff_iff];simp_all;done)|(rw [Bool.eq_iff_iff];simp_all;omega)
theorem Ji (l:BS) (hl:l.length≤1099511627776):Fa prog 82 [.c (.str (sB l))] (.c (.bool (pc l))):=by
 refine fA func82 fun C hC=>?_
 repeat' first|refine zV o0 ?_|refine yQ o0 (Mt _) ?_|refine zH o0 ?_ ?_<;>intro hb|fail
 all_goals first
  |(refine xT hC ?_
    refine .one (.c (Qe (Qo5 ?_).symm))
    first|(left;omega)|(right;simp_all))
  |skip
 refine Qh (fun x:Nat=>[(0,.c (.str (sB l))),(19,.c (.int .i64 l.length)),(20,.c (.int .i64 x))]) (fun _=>[]) (fun x=>x≤l.length∧∀j,j<x→Yf (XE l j)=true) (fun x=>l.length-x) 0 eB zZ ⟨Lz _,by omega⟩ ?_
 rintro x ⟨hx,hs⟩
 repeat' first|refine zV o0 ?_|refine yQ o0 (QrJ _) ?_|refine zH o0 ?_ ?_<;>intro hb|fail
 ·refine xT hC ?_
  refine .one (.c (Qe (Eq.symm ?_)))
  cases hn:pc l with
  |false=>rfl
  |true=>
   unfold pc at hn
   simp only [Ba,Dq] at hn
   have h1:=HB (p:=Yf) (l:=l) l.length 0 om x om om
   simp_all
 ·refine Qb ⟨x+1,by omega,eB,zZ,by omega,fun j hj=> ?_⟩
  by_cases e:j=x
  ·subst e;simp_all
  ·exact hs j om
 ·refine xT hC ?_
  refine .one (.c (Qe ?_))
  unfold pc
  rw [Gm l.length 0 om fun j _ hj=>hs j om,Dt (show 0<l.length from by omega),Dt (show l.length≤24 from by omega),Dt (rfl:l.length=l.length)]
  simp_all
end Go.Proofs.YtjegkdadeghpjaaGreatDoor
namespace Go.PN
open Go.AI
structure X7 where
 name:BS
 p:RD
 fail:RD
 rep:RD
 cost:Int
structure Vq where
 name:BS
 on:Bool
structure Xk where
 name:BS
 kind:Int
 k:Int
 ak:List BS
 aH:RD
structure YT where
 name:BS
 top:BS
 an:List Xk
structure YU where
 name:BS
 kind:Int
 members:List BS
 ar:List RD
structure Zh where
 event:BS
 p:RD
structure Ke where
 name:BS
 top:BS
 values:List Zh
structure Qz where
 name:BS
 top:BS
 events:List X7
 af:List Vq
 an:List Xk
 aa:List YT
 ae:List YU
 ai:List Ke
abbrev bn:X7:=⟨[],aW,aW,aW,0⟩
abbrev bw:Vq:=⟨[],false⟩
abbrev aU:Xk:=⟨[],0,0,[],aW⟩
abbrev bj:YT:=⟨[],[],[]⟩
abbrev bJ:YU:=⟨[],0,[],[]⟩
abbrev bE:Zh:=⟨[],aW⟩
abbrev cd:Ke:=⟨[],[],[]⟩
abbrev j2:Qz:=⟨[],[],[],[],[],[],[],[]⟩
abbrev kP:BS:=[112]
abbrev bm:BS:=[102,97,105,108]
abbrev aI:BS:=[114,101,112,97,105,114]
abbrev bl:BS:=[99,111,115,116]
abbrev QV:BS:=[59]
abbrev kT:BS:=[64]
abbrev O1:BS:=[58]
abbrev WW:BS:=[123]
abbrev Ya:BS:=[125]
abbrev nf:BS:=[111,110]
abbrev oi:BS:=[111,102,102]
abbrev Y2:BS:=[116,111,112]
abbrev Qy:BS:=[103,97,116,101]
abbrev OI:BS:=[98,101,116,97]
abbrev KF:BS:=[103,114,101,101,107]
abbrev Vr:BS:=[109,111,100,101,108]
abbrev Xi:BS:=[101,118,101,110,116]
abbrev Xq:BS:=[104,111,117,115,101]
abbrev Yb:BS:=[112,97,103,101]
abbrev Xr:BS:=[103,114,111,117,112]
abbrev Xn:BS:=[112,104,97,115,101]
abbrev yZ:BS:=[97,110,100]
abbrev zQ:BS:=[111,114]
abbrev kV:BS:=[118,111,116,101]
abbrev oQ:BS:=[110,111,116]
abbrev oR:BS:=[120,111,114]
abbrev eN:BS:=[105,110,104,105,98,105,116]
abbrev kU:BS:=[112,97,110,100]
abbrev jd:BS:=[115,112,97,114,101]
abbrev w6:BS:=[100,101,112,101,110,100]
def Yk (s:BS):Nat:=s.foldl (fun n b=>n*10+(b.toNat-48)) 0
def XH (b:UInt8) (s:BS):Nat:=(s.takeWhile (· !=b)).length
def qB (s:BS):Bool:=decide (0<s.length)&&QE (XE s 0)&&Va s 0==s.length
def OC (s:BS):Int:=if s.length>100 then 4 else if qB s=false then 2
 else if XH 47 s<s.length∧Yk (s.drop (XH 47 s+1))=0 then 8 else 0
def oo (s:BS):Rat:=if XH 47 s<s.length then(Yk (s.take (XH 47 s)):Rat)/(Yk (s.drop (XH 47 s+1)):Rat)
 else(Yk (s.take (XH 46 s)++s.drop (XH 46 s+1)):Rat)/((10^(s.drop (XH 46 s+1)).length:Nat):Rat)
def O2 (s:BS):RD:=if OC s=0 then rd (oo s) else aW
def sT (q:Rat):Option Int:=if q.den=1∧ -9223372036854775808≤q.num∧q.num≤9223372036854775807 then some q.num else none
structure PS where
 l:List TK
 e:Int
def Yv (c:Int) (s:PS):PS:=if s.e=0 then⟨s.l,c⟩ else s
def X4 (s:PS) (k:Nat):Bool:=decide (s.e=0)&&match s.l with|[]=>false|t::_=>t.kind==k
def Xe (s:PS) (w:BS):Bool:=decide (s.e=0)&&match s.l with|[]=>false|t::_=>t.kind !=1&&t.text==w
def oC (s:PS):BS:=match s.l with|[]=>[]|t::_=>t.text
def QU (may:Bool) (s:PS):BS×PS:=if s.e=0 then(match s.l with
 |[]=>([],⟨[],20⟩)
 |t::l=>if may then(t.text,⟨l,0⟩) else([],⟨t::l,2⟩)) else([],s)
def Xt (w:BS) (s:PS):PS:=(QU (Xe s w) s).2
def Xu (s:PS):BS×PS:=QU (X4 s 0) s
def Yh (s:PS):RD×PS:=let r:=QU (X4 s 1) s
 if r.2.e=0 then(O2 r.1,if OC r.1=0 then r.2 else⟨r.2.l,OC r.1⟩) else(aW,r.2)
def Zt (s:PS):Int×PS:=let r:=Yh s
 if r.2.e=0 then(match sT r.1.q with
  |some n=>if 0≤n∧n≤1073741824 then(n,r.2) else(0,⟨r.2.l,3⟩)
  |none=>(0,⟨r.2.l,3⟩)) else(0,r.2)
def Y3 (s:PS):BS×PS:=if Xe s kT then(let r:=Xu (Xt kT s);(64::r.1,r.2)) else Xu s
def mS (s:PS):Nat:=if s.e=0 then s.l.length+1 else 0
def UD {α:Type} (c:PS→Bool) (b:α→PS→α×PS):Nat→α→PS→α×PS
 |0,a,s=>(a,s)
 |n+1,a,s=>if s.e=0∧c s=true then UD c b n (b a s).1 (b a s).2 else(a,s)
def KS {α:Type} (c:PS→Bool) (b:α→PS→α×PS) (a:α) (s:PS):α×PS:=UD c b (mS s) a s
theorem UE {α:Type} {c:PS→Bool} {b:α→PS→α×PS} {n:Nat} {a:α} {s:PS} (h:¬(s.e=0∧c s=true)):UD c b n a s=(a,s):=by
 cases n with
 |zero=>rfl
 |succ n=>unfold UD;rw [iN h]
theorem Tg {α:Type} {c:PS→Bool} {b:α→PS→α×PS} (hd:∀a s,s.e=0→c s=true→mS (b a s).2<mS s):∀(n m:Nat) (a:α) (s:PS),mS s≤n→mS s≤m→UD c b n a s=UD c b m a s:=by
 intro n
 induction n with
 |zero=>
  intro m a s h1 h2
  have:¬(s.e=0∧c s=true):=fun h=>by unfold mS at h1;rw [iP h.1] at h1;omega
  rw [UE this,UE this]
 |succ n ih=>
  intro m a s h1 h2
  by_cases h:s.e=0∧c s=true
  ·have h3:=hd a s h.1 h.2
   cases m with
   |zero=>omega
   |succ m=>
    unfold UD
    rw [iP h,iP h]
    exact ih m _ _ om om
  ·rw [UE h,UE h]
theorem Vb {α:Type} {c:PS→Bool} {b:α→PS→α×PS} (hd:∀a s,s.e=0→c s=true→mS (b a s).2<mS s) {a:α} {s:PS} (h0:s.e=0) (h1:c s=true):KS c b a s=KS c b (b a s).1 (b a s).2:=by
 have h3:=hd a s h0 h1
 unfold KS
 obtain⟨n,hn⟩:∃n,mS s=n+1:=⟨mS s-1,by omega⟩
 rw [hn]
 show(if _ then _ else _)=_
 rw [iP ⟨h0,h1⟩]
 exact Tg hd _ _ _ _ om (Ac _)
theorem Ye {α:Type} {c:PS→Bool} {b:α→PS→α×PS} {a:α} {s:PS} (h:¬(s.e=0∧c s=true)):KS c b a s=(a,s):=UE h
def gR (x:List BS×X7) (s:PS):(List BS×X7)×PS:=
 let may:=Xe s kP||Xe s bm||Xe s aI||Xe s bl
 if may&&x.1.contains (oC s) then(x,Yv 6 s) else
 let r:=QU may s
 if r.1==kP then((r.1::x.1,{x.2 with p:=(Yh r.2).1}),(Yh r.2).2)
 else if r.1==bm then((r.1::x.1,{x.2 with fail:=(Yh r.2).1}),(Yh r.2).2)
 else if r.1==aI then((r.1::x.1,{x.2 with rep:=(Yh r.2).1}),(Yh r.2).2)
 else if r.1==bl then((r.1::x.1,{x.2 with cost:=(Zt r.2).1}),(Zt r.2).2)
 else((r.1::x.1,x.2),r.2)
def KG (s:PS):X7×PS:=let r:=Xu s
 let q:=KS (fun s=> !Xe s QV) gR ([],{bn with name:=r.1}) r.2
 (q.1.2,Xt QV q.2)
def KH (s:PS):Vq×PS:=let r:=Xu s
 let q:=QU (Xe r.2 nf||Xe r.2 oi) r.2
 (⟨r.1,q.1==nf⟩,Xt QV q.2)
def sN (w:BS):Option Int:=if w==yZ then some 0 else if w==zQ then some 1 else if w==kV then some 2 else if w==oQ then some 3 else if w==oR then some 4
 else if w==eN then some 5 else if w==kU then some 6 else if w==jd then some 7 else if w==w6 then some 8 else none
def nN (x:List BS) (s:PS):List BS×PS:=(x++[(Y3 s).1],(Y3 s).2)
def Ku (s:PS):Xk×PS:=let r:=Xu s
 let k:=if X4 r.2 0 then sN (oC r.2) else none
 let s2:=(QU k.isSome r.2).2
 let v:=if k=some 2 then Zt s2 else(0,s2)
 let d:=if k=some 7 then Yh v.2 else(aW,v.2)
 let q:=KS (fun s=> !Xe s QV) nN [] d.2
 (⟨r.1,k.getD 0,v.1,q.1,d.1⟩,Xt QV q.2)
def nO (x:List Xk) (s:PS):List Xk×PS:=(x++[(Ku (Xt Qy s)).1],(Ku (Xt Qy s)).2)
def Wq (s:PS):YT×PS:=let r:=Xu s
 let t:=Y3 (Xt Y2 r.2)
 let q:=KS (fun s=> !Xe s Ya) nO [] (Xt WW t.2)
 (⟨r.1,t.1,q.1⟩,Xt Ya q.2)
def nC (x:List RD) (s:PS):List RD×PS:=(x++[(Yh s).1],(Yh s).2)
def nD (x:List BS) (s:PS):List BS×PS:=(x++[(Xu s).1],(Xu s).2)
def KI (s:PS):YU×PS:=let r:=Xu s
 let g:=QU (Xe r.2 OI||Xe r.2 KF) r.2
 let f:=KS (fun s=>X4 s 1) nC [] g.2
 let m:=KS (fun s=>X4 s 0) nD [] (Xt O1 f.2)
 (⟨r.1,if g.1==KF then 1 else 0,m.1,f.1⟩,Xt QV m.2)
def nq (x:List Zh) (s:PS):List Zh×PS:=let r:=Xu s
 (x++[⟨r.1,(Yh r.2).1⟩],Xt QV (Yh r.2).2)
def KJ (s:PS):Ke×PS:=let r:=Xu s
 let t:=Y3 (Xt Y2 r.2)
 let q:=KS (fun s=> !Xe s Ya) nq [] (Xt WW t.2)
 (⟨r.1,t.1,q.1⟩,Xt Ya q.2)
def cG (m:Qz) (s:PS):Qz×PS:=
 let r:=QU (Xe s Xi||Xe s Xq||Xe s Qy||Xe s Yb||Xe s Xr||Xe s Xn) s
 if r.1==Xi then({m with events:=m.events++[(KG r.2).1]},(KG r.2).2)
 else if r.1==Xq then({m with af:=m.af++[(KH r.2).1]},(KH r.2).2)
 else if r.1==Qy then({m with an:=m.an++[(Ku r.2).1]},(Ku r.2).2)
 else if r.1==Yb then({m with aa:=m.aa++[(Wq r.2).1]},(Wq r.2).2)
 else if r.1==Xr then({m with ae:=m.ae++[(KI r.2).1]},(KI r.2).2)
 else if r.1==Xn then({m with ai:=m.ai++[(KJ r.2).1]},(KJ r.2).2)
 else(m,r.2)
def mf (s:PS):PS:=if s.e=0∧s.l≠[] then⟨s.l,2⟩ else s
def OJ (s:PS):Qz×PS:=let r:=Xu (Xt Vr s)
 let q:=KS (fun s=> !Xe s Y2) cG {j2 with name:=r.1} (Xt QV r.2)
 let t:=Y3 (Xt Y2 q.2)
 ({q.1 with top:=t.1},mf (Xt QV t.2))
end Go.PN
namespace Go.AI
open Go.PN
structure TX where
 t:TK
 a:Int
 b:Int
 c:Int
abbrev jv:TX:=⟨⟨0,[]⟩,0,0,0⟩
abbrev An (r:BS):List CV:=[CV.str (sB r)]
def Qi (l:List BS):Nat→CV:=lf 1 An ([]:BS) l
@[go_sem] theorem X0 (l:List BS) (i:Nat):Qi l (i)=.str (sB (l.getD i [])):=by have:=Q9 (s:=1) (c:=An) (d:=([]:BS)) (xs:=l) (i:=i) (k:=0) om;rw [Ad,Nat.add_zero] at this;exact this
abbrev YH (t:Bool) (l:List BS):CV:=.row t 1 l.length (Qi l)
theorem YI (l:List BS) (j:Nat):(Qi l j).aX=true:=by
 obtain⟨i,k,hk,rfl⟩:∃i k,k<1∧j=i*1+k:=⟨j/1,j%1,Nat.mod_lt _ om,by omega⟩
 unfold Qi
 rw [Q9 hk]
 match k,hk with
 |0,_=>rfl
abbrev OD (r:X7):List CV:=[CV.str (sB r.name),.bool r.p.neg,ws true r.p.num,ws true r.p.den,.bool r.fail.neg,ws true r.fail.num,ws true r.fail.den,.bool r.rep.neg,ws true r.rep.num,ws true r.rep.den,.int .i64 r.cost]
def Zu (l:List X7):Nat→CV:=lf 11 OD (bn:X7) l
@[go_sem] theorem QwL (l:List X7) (i:Nat):Zu l (i*11)=.str (sB (l.getD i bn).name):=by have:=Q9 (s:=11) (c:=OD) (d:=(bn:X7)) (xs:=l) (i:=i) (k:=0) om;exact this
@[go_sem] theorem QwM (l:List X7) (i:Nat):Zu l (i*11+1)=.bool (l.getD i bn).p.neg:=by have:=Q9 (s:=11) (c:=OD) (d:=(bn:X7)) (xs:=l) (i:=i) (k:=1) om;exact this
@[go_sem] theorem QwN (l:List X7) (i:Nat):Zu l (i*11+2)=ws true (l.getD i bn).p.num:=by have:=Q9 (s:=11) (c:=OD) (d:=(bn:X7)) (xs:=l) (i:=i) (k:=2) om;exact this
@[go_sem] theorem QwO (l:List X7) (i:Nat):Zu l (i*11+3)=ws true (l.getD i bn).p.den:=by have:=Q9 (s:=11) (c:=OD) (d:=(bn:X7)) (xs:=l) (i:=i) (k:=3) om;exact this
@[go_sem] theorem QwP (l:List X7) (i:Nat):Zu l (i*11+4)=.bool (l.getD i bn).fail.neg:=by have:=Q9 (s:=11) (c:=OD) (d:=(bn:X7)) (xs:=l) (i:=i) (k:=4) om;exact this
@[go_sem] theorem QwQ (l:List X7) (i:Nat):Zu l (i*11+5)=ws true (l.getD i bn).fail.num:=by have:=Q9 (s:=11) (c:=OD) (d:=(bn:X7)) (xs:=l) (i:=i) (k:=5) om;exact this
@[go_sem] theorem QwR (l:List X7) (i:Nat):Zu l (i*11+6)=ws true (l.getD i bn).fail.den:=by have:=Q9 (s:=11) (c:=OD) (d:=(bn:X7)) (xs:=l) (i:=i) (k:=6) om;exact this
@[go_sem] theorem QwS (l:List X7) (i:Nat):Zu l (i*11+7)=.bool (l.getD i bn).rep.neg:=by have:=Q9 (s:=11) (c:=OD) (d:=(bn:X7)) (xs:=l) (i:=i) (k:=7) om;exact this
@[go_sem] theorem QwT (l:List X7) (i:Nat):Zu l (i*11+8)=ws true (l.getD i bn).rep.num:=by have:=Q9 (s:=11) (c:=OD) (d:=(bn:X7)) (xs:=l) (i:=i) (k:=8) om;exact this
@[go_sem] theorem QwU (l:List X7) (i:Nat):Zu l (i*11+9)=ws true (l.getD i bn).rep.den:=by have:=Q9 (s:=11) (c:=OD) (d:=(bn:X7)) (xs:=l) (i:=i) (k:=9) om;exact this
@[go_sem] theorem Qwt (l:List X7) (i:Nat):Zu l (i*11+10)=.int .i64 (l.getD i bn).cost:=by have:=Q9 (s:=11) (c:=OD) (d:=(bn:X7)) (xs:=l) (i:=i) (k:=10) om;exact this
abbrev gS (t:Bool) (l:List X7):CV:=.row t 11 l.length (Zu l)
abbrev kr (r:Vq):List CV:=[CV.str (sB r.name),.bool r.on]
def Zv (l:List Vq):Nat→CV:=lf 2 kr (bw:Vq) l
@[go_sem] theorem QwV (l:List Vq) (i:Nat):Zv l (i*2)=.str (sB (l.getD i bw).name):=by have:=Q9 (s:=2) (c:=kr) (d:=(bw:Vq)) (xs:=l) (i:=i) (k:=0) om;exact this
@[go_sem] theorem QwW (l:List Vq) (i:Nat):Zv l (i*2+1)=.bool (l.getD i bw).on:=by have:=Q9 (s:=2) (c:=kr) (d:=(bw:Vq)) (xs:=l) (i:=i) (k:=1) om;exact this
abbrev jb (t:Bool) (l:List Vq):CV:=.row t 2 l.length (Zv l)
theorem Ti (l:List Vq) (j:Nat):(Zv l j).aX=true:=by
 obtain⟨i,k,hk,rfl⟩:∃i k,k<2∧j=i*2+k:=⟨j/2,j%2,Nat.mod_lt _ om,by omega⟩
 unfold Zv
 rw [Q9 hk]
 match k,hk with
 |0,_=>rfl
 |1,_=>rfl
abbrev Zi (r:Xk):List CV:=[CV.str (sB r.name),.int .i64 r.kind,.int .i64 r.k,YH true r.ak,.bool r.aH.neg,ws true r.aH.num,ws true r.aH.den]
def X1 (l:List Xk):Nat→CV:=lf 7 Zi (aU:Xk) l
@[go_sem] theorem QwX (l:List Xk) (i:Nat):X1 l (i*7)=.str (sB (l.getD i aU).name):=by have:=Q9 (s:=7) (c:=Zi) (d:=(aU:Xk)) (xs:=l) (i:=i) (k:=0) om;exact this
@[go_sem] theorem QwY (l:List Xk) (i:Nat):X1 l (i*7+1)=.int .i64 (l.getD i aU).kind:=by have:=Q9 (s:=7) (c:=Zi) (d:=(aU:Xk)) (xs:=l) (i:=i) (k:=1) om;exact this
@[go_sem] theorem QwZ (l:List Xk) (i:Nat):X1 l (i*7+2)=.int .i64 (l.getD i aU).k:=by have:=Q9 (s:=7) (c:=Zi) (d:=(aU:Xk)) (xs:=l) (i:=i) (k:=2) om;exact this
@[go_sem] theorem Qw0 (l:List Xk) (i:Nat):X1 l (i*7+3)=YH true (l.getD i aU).ak:=by have:=Q9 (s:=7) (c:=Zi) (d:=(aU:Xk)) (xs:=l) (i:=i) (k:=3) om;exact this
@[go_sem] theorem Qw1 (l:List Xk) (i:Nat):X1 l (i*7+4)=.bool (l.getD i aU).aH.neg:=by have:=Q9 (s:=7) (c:=Zi) (d:=(aU:Xk)) (xs:=l) (i:=i) (k:=4) om;exact this
@[go_sem] theorem Qw2 (l:List Xk) (i:Nat):X1 l (i*7+5)=ws true (l.getD i aU).aH.num:=by have:=Q9 (s:=7) (c:=Zi) (d:=(aU:Xk)) (xs:=l) (i:=i) (k:=5) om;exact this
@[go_sem] theorem Qw3 (l:List Xk) (i:Nat):X1 l (i*7+6)=ws true (l.getD i aU).aH.den:=by have:=Q9 (s:=7) (c:=Zi) (d:=(aU:Xk)) (xs:=l) (i:=i) (k:=6) om;exact this
abbrev ca (t:Bool) (l:List Xk):CV:=.row t 7 l.length (X1 l)
abbrev iO (r:YT):List CV:=[CV.str (sB r.name),.str (sB r.top),ca true r.an]
def V0 (l:List YT):Nat→CV:=lf 3 iO (bj:YT) l
@[go_sem] theorem Qw4 (l:List YT) (i:Nat):V0 l (i*3)=.str (sB (l.getD i bj).name):=by have:=Q9 (s:=3) (c:=iO) (d:=(bj:YT)) (xs:=l) (i:=i) (k:=0) om;exact this
@[go_sem] theorem Qw5 (l:List YT) (i:Nat):V0 l (i*3+1)=.str (sB (l.getD i bj).top):=by have:=Q9 (s:=3) (c:=iO) (d:=(bj:YT)) (xs:=l) (i:=i) (k:=1) om;exact this
@[go_sem] theorem Qw6 (l:List YT) (i:Nat):V0 l (i*3+2)=ca true (l.getD i bj).an:=by have:=Q9 (s:=3) (c:=iO) (d:=(bj:YT)) (xs:=l) (i:=i) (k:=2) om;exact this
abbrev ir (t:Bool) (l:List YT):CV:=.row t 3 l.length (V0 l)
abbrev UF (r:YU):List CV:=[CV.str (sB r.name),.int .i64 r.kind,YH true r.members,OB true r.ar]
def Vs (l:List YU):Nat→CV:=lf 4 UF (bJ:YU) l
@[go_sem] theorem Qw7 (l:List YU) (i:Nat):Vs l (i*4)=.str (sB (l.getD i bJ).name):=by have:=Q9 (s:=4) (c:=UF) (d:=(bJ:YU)) (xs:=l) (i:=i) (k:=0) om;exact this
@[go_sem] theorem Qw8 (l:List YU) (i:Nat):Vs l (i*4+1)=.int .i64 (l.getD i bJ).kind:=by have:=Q9 (s:=4) (c:=UF) (d:=(bJ:YU)) (xs:=l) (i:=i) (k:=1) om;exact this
@[go_sem] theorem Qw9 (l:List YU) (i:Nat):Vs l (i*4+2)=YH true (l.getD i bJ).members:=by have:=Q9 (s:=4) (c:=UF) (d:=(bJ:YU)) (xs:=l) (i:=i) (k:=2) om;exact this
@[go_sem] theorem Qxa (l:List YU) (i:Nat):Vs l (i*4+3)=OB true (l.getD i bJ).ar:=by have:=Q9 (s:=4) (c:=UF) (d:=(bJ:YU)) (xs:=l) (i:=i) (k:=3) om;exact this
abbrev fB (t:Bool) (l:List YU):CV:=.row t 4 l.length (Vs l)
abbrev O3 (r:Zh):List CV:=[CV.str (sB r.event),.bool r.p.neg,ws true r.p.num,ws true r.p.den]
def VJ (l:List Zh):Nat→CV:=lf 4 O3 (bE:Zh) l
@[go_sem] theorem Qxb (l:List Zh) (i:Nat):VJ l (i*4)=.str (sB (l.getD i bE).event):=by have:=Q9 (s:=4) (c:=O3) (d:=(bE:Zh)) (xs:=l) (i:=i) (k:=0) om;exact this
@[go_sem] theorem Qxc (l:List Zh) (i:Nat):VJ l (i*4+1)=.bool (l.getD i bE).p.neg:=by have:=Q9 (s:=4) (c:=O3) (d:=(bE:Zh)) (xs:=l) (i:=i) (k:=1) om;exact this
@[go_sem] theorem Qxd (l:List Zh) (i:Nat):VJ l (i*4+2)=ws true (l.getD i bE).p.num:=by have:=Q9 (s:=4) (c:=O3) (d:=(bE:Zh)) (xs:=l) (i:=i) (k:=2) om;exact this
@[go_sem] theorem Qxe (l:List Zh) (i:Nat):VJ l (i*4+3)=ws true (l.getD i bE).p.den:=by have:=Q9 (s:=4) (c:=O3) (d:=(bE:Zh)) (xs:=l) (i:=i) (k:=3) om;exact this
abbrev ll (t:Bool) (l:List Zh):CV:=.row t 4 l.length (VJ l)
abbrev Wr (r:Ke):List CV:=[CV.str (sB r.name),.str (sB r.top),ll true r.values]
def V1 (l:List Ke):Nat→CV:=lf 3 Wr (cd:Ke) l
@[go_sem] theorem Qxf (l:List Ke) (i:Nat):V1 l (i*3)=.str (sB (l.getD i cd).name):=by have:=Q9 (s:=3) (c:=Wr) (d:=(cd:Ke)) (xs:=l) (i:=i) (k:=0) om;exact this
@[go_sem] theorem Qxg (l:List Ke) (i:Nat):V1 l (i*3+1)=.str (sB (l.getD i cd).top):=by have:=Q9 (s:=3) (c:=Wr) (d:=(cd:Ke)) (xs:=l) (i:=i) (k:=1) om;exact this
@[go_sem] theorem Qxh (l:List Ke) (i:Nat):V1 l (i*3+2)=ll true (l.getD i cd).values:=by have:=Q9 (s:=3) (c:=Wr) (d:=(cd:Ke)) (xs:=l) (i:=i) (k:=2) om;exact this
abbrev fS (t:Bool) (l:List Ke):CV:=.row t 3 l.length (V1 l)
abbrev tL (r:TX):List CV:=[CV.int .i64 r.t.kind,.str (sB r.t.text),.int .i64 r.a,.int .i64 r.b,.int .i64 r.c]
def my (l:List TX):Nat→CV:=lf 5 tL (jv:TX) l
@[go_sem] theorem Qxi (l:List TX) (i:Nat):my l (i*5)=.int .i64 (l.getD i jv).t.kind:=by have:=Q9 (s:=5) (c:=tL) (d:=(jv:TX)) (xs:=l) (i:=i) (k:=0) om;exact this
@[go_sem] theorem Qxj (l:List TX) (i:Nat):my l (i*5+1)=.str (sB (l.getD i jv).t.text):=by have:=Q9 (s:=5) (c:=tL) (d:=(jv:TX)) (xs:=l) (i:=i) (k:=1) om;exact this
@[go_sem] theorem Qxk (l:List TX) (i:Nat):my l (i*5+2)=.int .i64 (l.getD i jv).a:=by have:=Q9 (s:=5) (c:=tL) (d:=(jv:TX)) (xs:=l) (i:=i) (k:=2) om;exact this
@[go_sem] theorem Qxl (l:List TX) (i:Nat):my l (i*5+3)=.int .i64 (l.getD i jv).b:=by have:=Q9 (s:=5) (c:=tL) (d:=(jv:TX)) (xs:=l) (i:=i) (k:=3) om;exact this
@[go_sem] theorem Qxm (l:List TX) (i:Nat):my l (i*5+4)=.int .i64 (l.getD i jv).c:=by have:=Q9 (s:=5) (c:=tL) (d:=(jv:TX)) (xs:=l) (i:=i) (k:=4) om;exact this
abbrev np (t:Bool) (l:List TX):CV:=.row t 5 l.length (my l)
abbrev Xo (t:Bool) (m:Qz):List CV:=[.str (sB m.name),.str (sB m.top),gS t m.events,jb t m.af,ca t m.an,ir t m.aa,fB t m.ae,fS t m.ai]
end Go.AI
namespace Go.PN
open Go.AI
theorem Mw {l:BS} {i:Nat} (h:Va l i<l.length):QE (XE l (Va l i))=false:=by
 unfold Va at h⊢
 split at h
 ·rename_i h1;rw [iP h1];exact HC h
 ·rename_i h1;rw [iN h1];exact HC h
theorem MZ {n:Nat} (h1:KO n=false) (h2:QE n=false) (h3:¬n=95) (h4:¬n=46):¬Yf n=true:=by unfold Yf;simp [h1,h2,h3,h4]
theorem FY {l:BS} {i:Nat} (h:nZ (XE l i)=true):ZI l i=.skip (i+1):=by unfold ZI;rw [iP h]
theorem FZ {l:BS} {i:Nat} (h:nZ (XE l i)=false) (h1:XE l i=35):ZI l i=.skip (Xm (fun b=>b !=10) l i):=by unfold ZI;rw [iN (by rw [h];decide),iP h1]
theorem Bl {l:BS} {i:Nat} (h:nZ (XE l i)=false) (h1:¬XE l i=35) (h2:KO (XE l i)=true):ZI l i=if Xm Yf l i-i>24 then .err 5 else .tok 0 (Xm Yf l i):=by unfold ZI;rw [iN (by rw [h];decide),iN h1,iP h2]
theorem VF {l:BS} {i:Nat} (h:nZ (XE l i)=false) (h1:¬XE l i=35) (h2:KO (XE l i)=false) (h3:QE (XE l i)=true):ZI l i=if Va l i<l.length∧(Yf (XE l (Va l i))=true∨XE l (Va l i)=47) then .err 2 else .tok 1 (Va l i):=by unfold ZI;rw [iN (by rw [h];decide),iN h1,iN (by rw [h2];decide),iP h3]
theorem AF {l:BS} {i:Nat} (h:nZ (XE l i)=false) (h1:¬XE l i=35) (h2:KO (XE l i)=false) (h3:QE (XE l i)=false):ZI l i=if qG (XE l i) then .tok 2 (i+1) else .err 2:=by unfold ZI;rw [iN (by rw [h];decide),iN h1,iN (by rw [h2];decide),iN (by rw [h3];decide)]
theorem K3 {l:BS} {i:Nat} {out:List TK} {S:Int×List TK} {c:Int} (hs:Yj l (l.length-i) i out=S) (hi:i<l.length) (h:ZI l i=.err c):S=(c,[]):=by rw [WV hi,h] at hs;exact hs.symm
theorem O4 {l:BS} {i e:Nat} {out:List TK} {S:Int×List TK} (hs:Yj l (l.length-i) i out=S) (hi:i<l.length) (h:ZI l i=.skip e):Yj l (l.length-e) e out=S:=by rw [WV hi,h] at hs;exact hs
theorem Ol {l:BS} {i e k:Nat} {out:List TX} {S:Int×List TK} (hs:Yj l (l.length-i) i (out.map TX.t)=S) (hi:i<l.length) (h:ZI l i=.tok k e) (a b c:Int):Yj l (l.length-e) e ((out++[(⟨⟨k,Vn l i e⟩,a,b,c⟩:TX)]).map TX.t)=S:=by
 rw [WV hi,h] at hs
 rw [List.map_append]
 exact hs
theorem QmO {l:BS} {i:Nat} {out:List TK} {S:Int×List TK} (hs:Yj l (l.length-i) i out=S) (hi:¬i<l.length):S=(0,out):=by rw [Tf om] at hs;exact hs.symm
end Go.PN
namespace Go.Proofs.YtjegkdadeghpjaaGreatDoor
open Go.AI Go.PN Proofs.Tryz
attribute [local irreducible] aw Fa VA Vk Fh YO
theorem QmP (l:BS) (hl:l.length≤1099511627776):Fh prog 159 [] [.c (.str (sB l))] (fun x h=>h=[]∧∃out:List TX,out.map TX.t=(XL l).2∧x=.aF [.c (np true out),.c (Z7 (XL l).1)]):=by
 refine fH func159 fun C hC=>?_
 repeat' first|refine zV o0 ?_|refine zH o0 ?_ ?_<;>intro hb|fail
 ·refine ZP (t:=2) (v:=.c (np true [])) (fun S w u hr=>XK hr) rfl ?_
  refine xS ?_
  refine xU ?_
  unfold XL
  rw [iP om]
  exact⟨rfl,[],rfl,rfl⟩
 generalize hS:Yj l l.length 0 []=S
 have DQ:XL l=S:=by unfold XL;rw [iN om];exact hS
 rw [DQ]
 refine Qh (fun x:Nat×Option Nat×Nat×List TX×Int×Int=>[(0,.c (.str (sB l))),(4,.c (gs x.2.1 5 x.2.2.1)),(5,.c (.int .i64 x.2.2.2.2.1)),(6,.c (.int .i64 x.2.2.2.2.2)),(7,.c (.int .i64 x.1))]) (fun x=>gh x.2.1 218 (x.2.2.1*5) (my x.2.2.2.1))
  (fun x=>x.1≤l.length∧(x.2.1=none→x.2.2.1=0)∧x.2.2.1≤x.1∧x.2.2.2.1.length=x.2.2.1∧0≤x.2.2.2.2.1∧x.2.2.2.2.1≤x.1+1∧0≤x.2.2.2.2.2∧x.2.2.2.2.2≤x.1∧Yj l (l.length-x.1) x.1 (x.2.2.2.1.map TX.t)=S) (fun x=>l.length-x.1) (0,none,0,[],1,0) eB (by simp only [gh];exact Lr _) ⟨Lz _,fun _=>rfl,Lz _,rfl,by decide,by decide,by decide,by decide,hS⟩ ?_
 rintro ⟨i,og,n,out,line,start⟩ ⟨hi,ax,lP,hn,lJ,jW,bw,dz,dP⟩
 dsimp only at hi ax lP hn lJ jW bw dz dP⊢
 have e1:=Z9 Yf l i
 have e2:=UB (p:=Yf) hi
 have e3:=QrH l i
 have e4:=Mr hi
 repeat' first|refine zV o0 ?_|(refine tN o0 (Mv _ ?_) ?_;· exact xQ l _)|(refine tP o0 (Mv _ ?_) ?_;· exact xQ l _)|refine yQ o0 (Cl _) ?_|refine yQ o0 (JK _) ?_|(refine tN o0 (Mu _ ?_) ?_;· exact xQ l _)|(refine tP o0 (Mu _ ?_) ?_;· exact xQ l _)|(refine tN o0 (BU l i hl ?_) ?_;· omega)|(refine tP o0 (BU l i hl ?_) ?_;· omega)|(refine tN o0 (Cm l i hl ?_) ?_;· omega)|(refine tP o0 (Cm l i hl ?_) ?_;· omega)|refine zH o0 ?_ ?_<;>intro hb|fail
 ·rename_i hi' hk
  refine Qb ⟨(i+1,og,n,out,line+1,i+1),by dsimp only;omega,eB,Lr _,by dsimp only;omega,ax,by dsimp only;omega,hn,by dsimp only;omega,by dsimp only;omega,by dsimp only;omega,by dsimp only;omega,O4 dP hi' (FY hk)⟩
 ·rename_i hi' hk
  refine Qb ⟨(i+1,og,n,out,line,start),by dsimp only;omega,eB,Lr _,by dsimp only;omega,ax,by dsimp only;omega,hn,by dsimp only;omega,by dsimp only;omega,by dsimp only;omega,by dsimp only;omega,O4 dP hi' (FY hk)⟩
 ·rename_i hi' hk
  have eT:=hb
  have hq:=O4 dP hi' (FZ hk eT)
  have g1:=(U8 hi' (FZ hk eT))
  generalize hE:Xm (fun b=>b !=10) l i=e at hq g1
  refine Qh (fun x:Nat=>[(0,.c (.str (sB l))),(4,.c (gs og 5 n)),(5,.c (.int .i64 line)),(6,.c (.int .i64 start)),(7,.c (.int .i64 x))]) (fun _=>gh og 218 (n*5) (my out)) (fun x=>i≤x∧x≤l.length∧Xm (fun b=>b !=10) l x=e) (fun x=>l.length-x) i eB zZ ⟨Ac _,hi,hE⟩ ?_
  rintro x ⟨Rq,hx,tE⟩
  repeat' first|refine zV o0 ?_|refine zH o0 ?_ ?_<;>intro hb|fail
  ·rename_i mr
   have kQ:=hb
   refine Qb ⟨x+1,by omega,eB,Lr _,by omega,by omega,?_⟩
   rw [←ZU mr (by simpa using kQ)];exact tE
  ·rename_i mr
   have kQ:=hb
   have:x=e:=by rw [←tE,WU mr (by simpa using kQ)]
   subst this
   exact Qb ⟨(x,og,n,out,line,start),by dsimp only;omega,eB,Lr _,by dsimp only;omega,ax,by dsimp only;omega,hn,by dsimp only;omega,by dsimp only;omega,by dsimp only;omega,by dsimp only;omega,hq⟩
  ·have mr:=hb
   have:x=e:=by rw [←tE,UC om]
   subst this
   exact Qb ⟨(x,og,n,out,line,start),by dsimp only;omega,eB,Lr _,by dsimp only;omega,ax,by dsimp only;omega,hn,by dsimp only;omega,by dsimp only;omega,by dsimp only;omega,by dsimp only;omega,hq⟩
 ·rename_i hi' hk eT aD
  have hc:=K3 dP hi' (by rw [Bl hk eT aD,iP om])
  refine Xa (h':=[]) (fun t=>.inr rfl) (List.nil_sublist _) ?_
  refine ZP (t:=2) (v:=.c (np true [])) (fun S w u hr=>XK hr) rfl ?_
  refine xS ?_
  refine xU ?_
  rw [hc]
  exact⟨rfl,[],rfl,rfl⟩
 ·rename_i hi' hk eT aD
  have hp:=Ol dP hi' (k:=0) (e:=Xm Yf l i) (by rw [Bl hk eT aD,iN om]) (i:Int) line ((i:Int)-start+1)
  have rN:=VE (k:=0) (e:=Xm Yf l i) hi' (by rw [Bl hk eT aD,iN om])
  refine QT (pre:=[]) rfl rfl rfl rfl rfl rfl rfl eE eE (by rfl) om om eE om (by exact ax) eE (by rfl) (by rfl) qb qc om (by exact YR hn (⟨⟨0,Vn l i (Xm Yf l i)⟩,i,line,(i:Int)-start+1⟩:TX) om) fun g n_=> ?_
  replace n_:=Qa.ay n_
  first|dsimp only [Qa.ne,gh] at n_|dsimp only [Qa.ne] at n_|skip
  refine yS n_ ?_
  refine zA n_ ?_
  exact Qb ⟨(Xm Yf l i,some g,n+1,out++[⟨⟨0,Vn l i (Xm Yf l i)⟩,i,line,(i:Int)-start+1⟩],line,start),by dsimp only;omega,(zB n_),Lr _,by dsimp only;omega,Xx,by dsimp only;omega,by dsimp only;rw [La,hn];rfl,by dsimp only;omega,by dsimp only;omega,by dsimp only;omega,by dsimp only;omega,hp⟩
 ·rename_i hi' hk eT aD jm bZ
  have hc:=K3 dP hi' (by rw [VF hk eT aD jm,iP ⟨bZ,.inl (Gl hb)⟩])
  refine Xa (h':=[]) (fun t=>.inr rfl) (List.nil_sublist _) ?_
  refine ZP (t:=2) (v:=.c (np true [])) (fun S w u hr=>XK hr) rfl ?_
  refine xS ?_
  refine xU ?_
  rw [hc]
  exact⟨rfl,[],rfl,rfl⟩
 ·rename_i hi' hk eT aD jm bZ h1
  have hc:=K3 dP hi' (by rw [VF hk eT aD jm,iP ⟨bZ,.inl (by unfold Yf;rw [hb];simp)⟩])
  refine Xa (h':=[]) (fun t=>.inr rfl) (List.nil_sublist _) ?_
  refine ZP (t:=2) (v:=.c (np true [])) (fun S w u hr=>XK hr) rfl ?_
  refine xS ?_
  refine xU ?_
  rw [hc]
  exact⟨rfl,[],rfl,rfl⟩
 ·rename_i hi' hk eT aD jm bZ h1 h2
  have hc:=K3 dP hi' (by rw [VF hk eT aD jm,iP ⟨bZ,.inl (by unfold Yf;rw [hb];simp)⟩])
  refine Xa (h':=[]) (fun t=>.inr rfl) (List.nil_sublist _) ?_
  refine ZP (t:=2) (v:=.c (np true [])) (fun S w u hr=>XK hr) rfl ?_
  refine xS ?_
  refine xU ?_
  rw [hc]
  exact⟨rfl,[],rfl,rfl⟩
 ·rename_i hi' hk eT aD jm bZ h1 h2 h3
  have hc:=K3 dP hi' (by rw [VF hk eT aD jm,iP ⟨bZ,.inr hb⟩])
  refine Xa (h':=[]) (fun t=>.inr rfl) (List.nil_sublist _) ?_
  refine ZP (t:=2) (v:=.c (np true [])) (fun S w u hr=>XK hr) rfl ?_
  refine xS ?_
  refine xU ?_
  rw [hc]
  exact⟨rfl,[],rfl,rfl⟩
 ·rename_i hi' hk eT aD jm bZ h1 h2 h3
  have hp:=Ol dP hi' (k:=1) (e:=Va l i) (by rw [VF hk eT aD jm,iN (fun z=>z.2.elim (MZ h1 (Mw bZ) h2 h3) hb)]) (i:Int) line ((i:Int)-start+1)
  have rN:=VE (k:=1) (e:=Va l i) hi' (by rw [VF hk eT aD jm,iN (fun z=>z.2.elim (MZ h1 (Mw bZ) h2 h3) hb)])
  refine QT (pre:=[]) rfl rfl rfl rfl rfl rfl rfl eE eE (by rfl) om om eE om (by exact ax) eE (by rfl) (by rfl) qb qc om (by exact YR hn (⟨⟨1,Vn l i (Va l i)⟩,i,line,(i:Int)-start+1⟩:TX) om) fun g n_=> ?_
  replace n_:=Qa.ay n_
  first|dsimp only [Qa.ne,gh] at n_|dsimp only [Qa.ne] at n_|skip
  refine yS n_ ?_
  refine zA n_ ?_
  exact Qb ⟨(Va l i,some g,n+1,out++[⟨⟨1,Vn l i (Va l i)⟩,i,line,(i:Int)-start+1⟩],line,start),by dsimp only;omega,(zB n_),Lr _,by dsimp only;omega,Xx,by dsimp only;omega,by dsimp only;rw [La,hn];rfl,by dsimp only;omega,by dsimp only;omega,by dsimp only;omega,by dsimp only;omega,hp⟩
 ·rename_i hi' hk eT aD jm
  have hp:=Ol dP hi' (k:=1) (e:=Va l i) (by rw [VF hk eT aD jm,iN (fun z=>hb z.1)]) (i:Int) line ((i:Int)-start+1)
  have rN:=VE (k:=1) (e:=Va l i) hi' (by rw [VF hk eT aD jm,iN (fun z=>hb z.1)])
  refine QT (pre:=[]) rfl rfl rfl rfl rfl rfl rfl eE eE (by rfl) om om eE om (by exact ax) eE (by rfl) (by rfl) qb qc om (by exact YR hn (⟨⟨1,Vn l i (Va l i)⟩,i,line,(i:Int)-start+1⟩:TX) om) fun g n_=> ?_
  replace n_:=Qa.ay n_
  first|dsimp only [Qa.ne,gh] at n_|dsimp only [Qa.ne] at n_|skip
  refine yS n_ ?_
  refine zA n_ ?_
  exact Qb ⟨(Va l i,some g,n+1,out++[⟨⟨1,Vn l i (Va l i)⟩,i,line,(i:Int)-start+1⟩],line,start),by dsimp only;omega,(zB n_),Lr _,by dsimp only;omega,Xx,by dsimp only;omega,by dsimp only;rw [La,hn];rfl,by dsimp only;omega,by dsimp only;omega,by dsimp only;omega,by dsimp only;omega,hp⟩
 ·rename_i hi' hk eT aD jm
  have hp:=Ol dP hi' (k:=2) (e:=i+1) (by rw [AF hk eT aD jm,hb];rfl) (i:Int) line ((i:Int)-start+1)
  have rN:=VE (k:=2) (e:=i+1) hi' (by rw [AF hk eT aD jm,hb];rfl)
  refine QT (pre:=[]) rfl rfl rfl rfl rfl rfl rfl eE eE (by rfl) om om eE om (by exact ax) eE (by rfl) (by rfl) qb qc om (by exact YR hn (⟨⟨2,Vn l i (i+1)⟩,i,line,(i:Int)-start+1⟩:TX) om) fun g n_=> ?_
  replace n_:=Qa.ay n_
  first|dsimp only [Qa.ne,gh] at n_|dsimp only [Qa.ne] at n_|skip
  refine yS n_ ?_
  refine zA n_ ?_
  exact Qb ⟨(i+1,some g,n+1,out++[⟨⟨2,Vn l i (i+1)⟩,i,line,(i:Int)-start+1⟩],line,start),by dsimp only;omega,(zB n_),Lr _,by dsimp only;omega,Xx,by dsimp only;omega,by dsimp only;rw [La,hn];rfl,by dsimp only;omega,by dsimp only;omega,by dsimp only;omega,by dsimp only;omega,hp⟩
 ·rename_i hi' hk eT aD jm
  have hc:=K3 dP hi' (by rw [AF hk eT aD jm,hb];rfl)
  refine Xa (h':=[]) (fun t=>.inr rfl) (List.nil_sublist _) ?_
  refine ZP (t:=2) (v:=.c (np true [])) (fun S w u hr=>XK hr) rfl ?_
  refine xS ?_
  refine xU ?_
  rw [hc]
  exact⟨rfl,[],rfl,rfl⟩
 ·have hc:=QmO dP hb
  rw [show gh og 218 (n*5) (my out)=gh og 218 (n*5) (my out)++[] from(Lp _).symm]
  refine Z8 (t:=2) (n':=out.length) (f':=my out) ax hn.symm eE (fun g _ h=>by simpa [Qa.keys] using (hC g).1 h) (fun _ _=>rfl) rfl ?_
  refine xS ?_
  refine xU ?_
  rw [hc]
  exact⟨rfl,out,rfl,rfl⟩
end Go.Proofs.YtjegkdadeghpjaaGreatDoor
namespace Go.PN
structure NP (o:List Int):Prop where
 range:∀x∈o,0≤x∧x<o.length
 nodup:o.Nodup
theorem HD:∀{l m:List Int},l.Nodup→(∀x∈l,x∈m)→l.length≤m.length
 |[],m,_,_=>by simp
 |a::l,m,hn,hs=>by
  simp only [List.nodup_cons] at hn
  have ha:=hs a (by simp)
  have:=HD (l:=l) (m:=m.erase a) hn.2 fun x hx=>(List.mem_erase_of_ne (fun e=>hn.1 (by rw [←e];exact hx))).2 (hs x (by simp [hx]))
  rw [List.length_erase_of_mem ha] at this
  have:0<m.length:=List.length_pos_of_mem ha
  simp only [Lc]
  omega
theorem NP.all {o:List Int} (h:NP o) {j:Nat} (hj:j<o.length):(j:Int)∈o:=by
 by_cases hm:(j:Int)∈o
 ·exact hm
 ·exfalso
  have:=HD (l:=(j:Int)::o) (m:=(List.range o.length).map (fun k:Nat=>(k:Int))) (by simp only [List.nodup_cons];exact⟨hm,h.nodup⟩) (fun x hx=>by
   rw [List.mem_map]
   rcases Lb.1 hx with rfl|hx
   ·exact⟨j,by simpa using hj,rfl⟩
   ·obtain⟨h1,h2⟩:=h.range x hx
    exact⟨x.toNat,by simp;omega,by omega⟩)
  simp at this
  omega
end Go.PN
namespace Go.AI
open Go.PN
theorem QrL {zs:List Bool} {i:Nat} {v:Bool} (hi:i<zs.length):Vl (mB zs) i [.bool v]=mB (zs.set i v):=by
 funext j
 simp only [Vl]
 by_cases e:j=i
 ·subst e;simp [hi,mB]
 ·rw [iN e]
  show CV.bool (zs.getD j false)=CV.bool ((zs.set i v).getD j false)
  rw [Lg,Lg,List.getElem?_set_ne (fun h=>e h.symm)]
theorem QrM (n:Nat):(fun j=>ao [CV.bool false] (j%1))=mB (List.replicate n false):=by
 funext j
 show ao [CV.bool false] (j%1)=CV.bool ((List.replicate n false).getD j false)
 rw [Nat.mod_one,Lg,List.getElem?_replicate]
 split<;>rfl
end Go.AI

namespace Go.AI
theorem Bu {xs bs:List CV} (h:xs.length=bs.length):Vl (ao xs) 0 bs=ao bs:=by
 funext j
 by_cases hj:j<bs.length
 ·have:=I4 bs (ao xs) 0 j hj
  rw [Nz] at this
  exact this
 ·rw [BJ _ _ _ _ om,CK,CK,List.getElem?_eq_none om,List.getElem?_eq_none om]
@[go_sem ↓] theorem Qxn (a b:CV):Vl (ao [a]) 0 [b]=ao [b]:=Bu rfl
@[go_sem ↓] theorem Qxo (a b c d:CV):Vl (ao [a,b]) 0 [c,d]=ao [c,d]:=Bu rfl
@[go_sem ↓] theorem Qxp (a b c x y z:CV):Vl (ao [a,b,c]) 0 [x,y,z]=ao [x,y,z]:=Bu rfl
end Go.AI
namespace Go.AI
open Go.PN
theorem QmQ {vs:List RD} {n:Nat} (hn:vs.length=n) (v:RD):∀j,j<(n+1)*3→Xs (Z6 vs) (n*3) (ao [.bool v.neg,ws true v.num,ws true v.den]) j=Z6 (vs++[v]) j:=YR (c:=fun r:RD=>[CV.bool r.neg,ws true r.num,ws true r.den]) hn v om
end Go.AI
namespace Go.PN
open Go.AI
structure Qxq (m k:Nat) (n:DN):Prop where
 v0:0≤n.v
 v1:n.v<m
 l0:0≤n.lo
 l1:n.lo<k+2
 h0:0≤n.hi
 h1:n.hi<k+2
end Go.PN

namespace Go.PN
open Go.AI
theorem M0 {k:Nat} (h:k≠0):sq false k k=1:=by
 unfold sq Uc
 have:=Rat.mkRat_mul_left (n:=1) (d:=1) h
 rw [Int.mul_one,Ad] at this
 simp only [Bool.false_eq_true,if_false]
 rw [this]
 rfl
theorem M1 (x y:Bool) {n m d e:Nat} (hm:m≠0) (he:e≠0):sq (x !=y) (n*e) (d*m)=sq x n d/sq y m e:=by
 have h1:sq y m e*sq y e m=1:=by
  rw [←CO,Nc e m,bne_self_eq_false]
  exact M0 (Nat.mul_ne_zero hm he)
 have hb:sq y m e≠0:=fun h=>by rw [h,Rat.zero_mul] at h1;exact absurd h1 Af
 have h2:(sq y m e)⁻¹=sq y e m:=by
  have h3:=Rat.inv_mul_cancel (sq y m e) hb
  have h4:(sq y m e)⁻¹*(sq y m e*sq y e m)=sq y e m:=by rw [←Rat.mul_assoc,h3,Rat.one_mul]
  rw [h1,Rat.mul_one] at h4
  exact h4
 rw [CO,Rat.div_def,h2]
theorem RD.ni {r:RD} (h:r.q≠0):r.pn≠0:=fun e=>h (by unfold RD.q;rw [e,ui])
theorem Qvz {a b:RD} {L:Nat} (hb:b.wf L) (hz:b.q≠0):sq (a.ps !=b.ps) (a.pn*b.pd) (a.pd*b.pn)=a.q/b.q:=M1 _ _ (RD.ni hz) (RD.cM hb)
theorem Qo9 {q:Rat} {L:Nat} (h:fits q L) (hz:q≠0):fits q⁻¹ L:=by
 obtain⟨h1,h2⟩:=h
 have hn:q.num≠0:=fun e=>hz (Rat.num_eq_zero.1 e)
 have h3:(rd q).q=q:=Wv q
 obtain⟨p1,p2,p3⟩:(rd q).ps=decide (q.num<0)∧(rd q).pn=q.num.natAbs∧(rd q).pd=q.den:=by
  have hs:=(Cc hz).1
  unfold RD.ps RD.pn RD.pd
  rw [iP hs,iP hs,iP hs]
  unfold rd
  rw [iN hn]
  exact⟨rfl,Qd _,Qd _⟩
 have h4:q=sq (decide (q.num<0)) q.num.natAbs q.den:=by
  have:(rd q).q=sq (rd q).ps (rd q).pn (rd q).pd:=rfl
  rw [h3,p1,p2,p3] at this
  exact this
 have h5:sq false 1 1=1:=M0 om
 have h6:=M1 false (decide (q.num<0)) (n:=1) (d:=1) (m:=q.num.natAbs) (e:=q.den) om q.den_nz
 rw [h5,←h4,Rat.div_def,Rat.one_mul,Nat.one_mul,Nat.one_mul] at h6
 rw [←h6]
 exact IN om h2 h1
theorem HE {a b:Rat} {L M:Nat} (ha:fits a L) (hb:fits b M) (hz:b≠0):fits (a/b) (L+M):=by
 rw [Rat.div_def]
 exact HZ ha (Qo9 hb hz)
end Go.PN
namespace Go.Proofs.YtjegkdadeghpjaaGreatDoor
open Go.AI Go.PN Proofs.Tryz
attribute [local irreducible] aw Fa VA Vk Fh YO
theorem Mx (a b:RD) (ha:a.wf 1073741824) (hb:b.wf 1073741824) (hz:b.q≠0):Fa prog 367 [.agg (YS a),.agg (YS b)] (.aF [.agg (YS (rd (a.q/b.q))),.c .aN]):=by
 obtain⟨l1,l2⟩:=RD.cL ha om
 obtain⟨l3,l4⟩:=RD.cL hb om
 have dd:a.pd*b.pn≠0:=Nat.mul_ne_zero (RD.cM ha) (RD.ni hz)
 have m1:=XJ a.pn b.pd
 have m3:=XJ a.pd b.pn
 have hl:(((Qc b.pn).length:Int)==0)=false:=by
  rw [beq_eq_false_iff_ne]
  intro e
  exact RD.ni hz (Xb.1 (Lh.1 om))
 refine fA func367 fun C hC=>?_
 refine yG hl ?_
 refine yB hl fun g2 aq=>?_
 refine yB (oj hl aq) fun g3 av=>?_
 refine yA (oj hl (oj aq av)) fun g4 aC=>?_
 have J1:=oj hl (oj aq (oj av aC))
 refine yG J1 ?_
 refine yC J1 (Y0 a ha) ?_
 refine yG J1 ?_
 refine yC J1 (Y0 b hb) ?_
 refine yG J1 ?_
 refine yN J1 ?_
 refine yG J1 ?_
 refine yC J1 (qP _ _ ?_ ?_) ?_
 ·omega
 ·omega
 refine yG J1 ?_
 refine yC J1 (qP _ _ ?_ ?_) ?_
 ·omega
 ·omega
 refine yG J1 ?_
 refine yC J1 (Uv _ _ _ ?_ ?_ dd) ?_
 ·omega
 ·omega
 rw [Qvz hb hz]
 refine V8 hC J1 ?_
 exact .aF ⟨.agg JI,.c .aN,trivial⟩
theorem QmR (a b:RD) (ha:a.wf 1073741824) (hb:b.wf 1073741824) (hz:b.q=0):Fa prog 367 [.agg (YS a),.agg (YS b)] (.aF [.agg (YS aW),.c (Z7 8)]):=by
 have hp:b.pn=0:=Classical.byContradiction fun h=>NK h (RD.cM hb) hz
 have hl:(((Qc b.pn).length:Int)==0)=true:=by rw [hp,QA];rfl
 refine fA func367 fun C hC=>?_
 refine yG hl ?_
 refine yB hl fun g2 aq=>?_
 refine yB (oj hl aq) fun g3 av=>?_
 refine yA (oj hl (oj aq av)) fun g4 aC=>?_
 have J1:=oj hl (oj aq (oj av aC))
 refine yG J1 ?_
 refine yC J1 (Y0 a ha) ?_
 refine yG J1 ?_
 refine yC J1 (Y0 b hb) ?_
 refine yG J1 ?_
 refine yP J1 ?_
 refine V8 hC J1 ?_
 exact .aF ⟨.agg ⟨.bool _,.ab,.ab,trivial⟩,.c (Uy rfl Af),trivial⟩
end Go.Proofs.YtjegkdadeghpjaaGreatDoor
namespace Go.PN
open Go.AI
theorem F0 {s:BS} {i:Nat} (h:i<s.length):Yk (s.take (i+1))=Yk (s.take i)*10+(XE s i-48):=by
 unfold Yk
 rw [List.take_succ_eq_append_getElem h,List.foldl_append,Ck h];rfl
theorem CD {n:Nat} (h:QE n=true):48≤n∧n≤57:=by
 unfold QE at h
 simp only [Ba,Dq] at h
 exact h
theorem My {s:BS} (hd:∀i,i<s.length→QE (XE s i)=true):∀i,i≤s.length→Yk (s.take i)<10^i
 |0,_=>by simp [Yk]
 |i+1,h=>by
  have h1:=My hd i om
  have h2:=CD (hd i om)
  rw [F0 om,Nat.pow_succ]
  omega
theorem Bv {n L:Nat} (h:n<4294967296^L) (hL:1≤L):fits (n:Rat) L:=by
 have h1:(1:Nat)<4294967296^L:=Nat.one_lt_pow om Af
 exact⟨by simpa using h,by simpa using h1⟩
theorem Bw (k:Nat):10^k<4294967296^(k+1):=Nat.lt_of_le_of_lt (Nat.pow_le_pow_left Af k) (Nat.pow_lt_pow_right Af om)
theorem K4 {s:BS} (hd:∀i,i<s.length→QE (XE s i)=true) {i:Nat} (hi:i≤s.length):fits (Yk (s.take i):Rat) (i+1):=
 Bv (Nat.lt_trans (My hd i hi) (Bw i)) om
theorem Quf {s:BS} {i:Nat} (h:i<s.length) (hd:QE (XE s i)=true):(Yk (s.take i):Rat)*((10:Int):Rat)+(((XE s i:Nat):Int)-48:Int)=(Yk (s.take (i+1)):Rat):=by
 have h2:=CD hd
 rw [F0 h]
 have:(((XE s i:Nat):Int)-48:Int)=((XE s i-48:Nat):Int):=by omega
 rw [this]
 push_cast
 rfl
theorem NQ {n:Int} (h:n.natAbs<4294967296):fits (n:Rat) 1:=⟨by simpa using h,by simp⟩
end Go.PN
namespace Go.Proofs.YtjegkdadeghpjaaGreatDoor
open Go.AI Go.PN Proofs.Tryz
theorem FK:∀j,j<3→∀(S:Bool→Nat→Prop) w u,XQ S w (ao [.bool false,.ab,.ab] j) u→XQ S w (ao (YS aW) j) u:=fun j hj S w u hr=>by
 match j,hj with
 |0,_=>exact hr
 |1,_=>exact XK hr
 |2,_=>exact XK hr
attribute [local irreducible] aw Fa VA Vk Fh YO
theorem AG (s:BS) (hd:∀i,i<s.length→QE (XE s i)=true) (hl:s.length≤1000):Fa prog 368 [.c (.str (sB s))] (.agg (YS (rd (Yk s:Rat)))):=by
 refine fA func368 fun C hC=>?_
 refine zA o0 ?_
 refine xA fun g2 aq=>?_
 refine zA aq ?_
 refine yA aq fun g3 av=>?_
 refine zA (oj aq av) ?_
 refine UA (f':=ao (YS aW)) FK ?_
 refine Qh (fun x:Nat=>[(0,.c (.str (sB s))),(2,.c (.aj g2 0)),(3,.c (.aj g3 0)),(7,.c (.int .i64 s.length)),(8,.c (.int .i64 x))]) (fun x=>[(g3,.cells 69 3 (ao (YS (rd (Yk (s.take x):Rat))))),(g2,.cells 69 3 (ao [.bool false,.ab,.ab]))]) (fun x=>x≤s.length) (fun x=>s.length-x) 0 (zB (oj aq av)) (by rw [show rd (Yk (s.take 0):Rat)=aW from dQ];exact Lr _) (Lz _) ?_
 rintro x hx
 all_goals try(have Z:=(oj aq av);(repeat' first|refine zV Z ?_|refine zH Z ?_ ?_<;>intro hb|fail);all_goals clear Z)
 ·have PK:=hd x hb
  have kz:=CD PK
  have w0:(rd (Yk (s.take x):Rat)).wf 1073741824:=JH (Yp (K4 hd hx) om)
  have q9:=uq 10 om om
  have w1:(rd ((10:Int):Rat)).wf 1073741824:=JH (Yp (L:=1) ⟨by decide,by decide⟩ om)
  have hm:=IT _ _ w0 w1
  have w2:(rd ((Yk (s.take x):Rat)*((10:Int):Rat))).wf 1073741824:=JH (Yp (HZ (K4 hd hx) (L:=x+1) (M:=1) ⟨by decide,by decide⟩) om)
  rw [Wv,Wv] at hm
  have hs:=uq (((XE s x:Nat):Int)-48) om om
  have w3:(rd ((((XE s x:Nat):Int)-48:Int):Rat)).wf 1073741824:=JH (Yp (NQ om) om)
  have ha:=Qrr _ _ w2 w3
  rw [Wv,Wv,Quf hb PK] at ha
  refine Xl 10 Qg kR ?_
  refine Fc (oj aq av) q9 hm hs ha ?_
  exact Qb ⟨x+1,by omega,(zB (oj aq av)),Lr _,by omega⟩
 ·refine yT hC (oj aq av) ?_
  obtain rfl:x=s.length:=by omega
  rw [Lk]
  exact .one (.agg JI)
end Go.Proofs.YtjegkdadeghpjaaGreatDoor
namespace Go.PN
open Go.AI
theorem Mz (b:UInt8) (s:BS):XH b s≤s.length:=(List.takeWhile_sublist _).length_le
theorem Cn (b:UInt8):∀s:BS,Lib.indexByte s b=if XH b s<s.length then(XH b s:Int) else-1
 |[]=>rfl
 |x::s=>by
  have ih:=Cn b s
  have hle:=Mz b s
  unfold Lib.indexByte
  by_cases h:x=b
  ·subst h
   have:XH x (x::s)=0:=by unfold XH;rw [List.takeWhile_cons_of_neg (by simp)];rfl
   rw [this];simp
  ·have h1:(x==b)=false:=by simpa using h
   have h2:XH b (x::s)=XH b s+1:=by unfold XH;rw [List.takeWhile_cons_of_pos (by simpa using h)];rfl
   rw [h1,h2,Lc]
   simp only [Bool.false_eq_true,if_false]
   rw [ih]
   by_cases h3:XH b s<s.length
   ·have:((XH b s:Int)== -1)=false:=by simp
    rw [iP h3,iP (show XH b s+1<s.length+1 from by omega),this];simp
   ·rw [iN h3,iN (show¬XH b s+1<s.length+1 from by omega)];rfl
theorem Co {b:UInt8}:∀{s:BS} {e:Nat},e<s.length→s.getD e 0=b→(∀j,j<e→s.getD j 0≠b)→XH b s=e
 |x::s,0,_,h,_=>by
  have:x=b:=by simpa using h
  unfold XH;rw [List.takeWhile_cons_of_neg (by simp [this])];rfl
 |x::s,e+1,hl,h,hn=>by
  have h0:x≠b:=by simpa using hn 0 om
  have h2:XH b (x::s)=XH b s+1:=by unfold XH;rw [List.takeWhile_cons_of_pos (by simpa using h0)];rfl
  rw [h2,Co (s:=s) (e:=e) (by simpa using hl) (by simpa using h) fun j hj=>by simpa using hn (j+1) om]
theorem w7 {b:UInt8}:∀{s:BS},(∀j,j<s.length→s.getD j 0≠b)→XH b s=s.length
 |[],_=>rfl
 |x::s,hn=>by
  have h0:x≠b:=by simpa using hn 0 (by simp)
  have h2:XH b (x::s)=XH b s+1:=by unfold XH;rw [List.takeWhile_cons_of_pos (by simpa using h0)];rfl
  rw [h2,w7 (s:=s) fun j hj=>by simpa using hn (j+1) (by simpa using hj)];rfl
theorem tY {s:BS} {j:Nat} {b:UInt8} (h:XE s j≠b.toNat):s.getD j 0≠b:=fun e=>h (by unfold XE;rw [e])
theorem MA {s:BS} {j:Nat} {b:UInt8} (h:XE s j=b.toNat):s.getD j 0=b:=UInt8.toNat_inj.1 h
inductive NU (s:BS):Prop where
 |all (h:∀i,i<s.length→QE (XE s i)=true)
 |two (e:Nat) (he:e+1<s.length) (hm:XE s e=46∨XE s e=47) (h1:∀i,i<e→QE (XE s i)=true) (h2:∀i,e<i→i<s.length→QE (XE s i)=true)
theorem AH {s:BS} {i:Nat}:∀j,i≤j→j<Xm QE s i→QE (XE s j)=true:=fun j h1 h2=>HB (p:=QE) (Xm QE s i-i) i (by have:=Z9 QE s i;omega) j h1 (by have:=Z9 QE s i;omega)
theorem HF {s:BS} (h:qB s=true):NU s∧0<s.length:=by
 unfold qB at h
 simp only [Ba,Dq,beq_iff_eq] at h
 obtain⟨⟨h0,_⟩,h2⟩:=h
 refine⟨?_,h0⟩
 unfold Va at h2
 split at h2
 ·rename_i h3
  refine .two (Xm QE s 0) h3.1 h3.2.1 (fun i hi=>AH i (Lz _) hi) fun i hi hl=>AH (i:=Xm QE s 0+1) i (Nat.succ_le_of_lt hi) (by rw [h2];exact hl)
 ·exact .all fun i hi=>AH i (Lz _) (by rw [h2];exact hi)
theorem QmS (s:BS) (e:Nat):Vn s 0 e=s.take e:=by unfold Vn;simp
theorem VG (s:BS) (e:Nat):Vn s e s.length=s.drop e:=by unfold Vn;exact Ly (by simp)
theorem Qpa {s:BS} {e i:Nat} (h:i<e):XE (s.take e) i=XE s i:=by
 unfold XE
 rw [Lg,Lg,List.getElem?_take,iP h]
theorem Qpb (s:BS) (e i:Nat):XE (s.drop e) i=XE s (e+i):=by
 unfold XE
 rw [Lg,Lg,List.getElem?_drop]
theorem WX {s:BS} {e:Nat} (h1:∀i,i<e→QE (XE s i)=true):∀i,i<(s.take e).length→QE (XE (s.take e) i)=true:=fun i hi=>by
 have:i<e:=by rw [List.length_take] at hi;omega
 rw [Qpa this];exact h1 i this
theorem WY {s:BS} {e:Nat} (h2:∀i,e<i→i<s.length→QE (XE s i)=true):∀i,i<(s.drop (e+1)).length→QE (XE (s.drop (e+1)) i)=true:=fun i hi=>by
 rw [List.length_drop] at hi
 rw [Qpb];exact h2 _ om om
theorem ya {s:BS} (h:∀i,i<s.length→QE (XE s i)=true):XH 47 s=s.length∧XH 46 s=s.length:=by
 have hd:∀i,i<s.length→48≤XE s i:=fun i hi=>by have:=h i hi;unfold QE at this;simp at this;omega
 exact⟨w7 fun j hj=>tY (by have:=hd j hj;show XE s j≠47;omega),w7 fun j hj=>tY (by have:=hd j hj;show XE s j≠46;omega)⟩
theorem wB {s:BS} {e:Nat} (he:e+1<s.length) (hm:XE s e=47) (h1:∀i,i<e→QE (XE s i)=true):XH 47 s=e:=by
 have hd:∀i,i<e→48≤XE s i:=fun i hi=>by have:=h1 i hi;unfold QE at this;simp at this;omega
 exact Co om (MA hm) fun j hj=>tY (by have:=hd j hj;show XE s j≠47;omega)
theorem wC {s:BS} {e:Nat} (he:e+1<s.length) (hm:XE s e=46) (h1:∀i,i<e→QE (XE s i)=true) (h2:∀i,e<i→i<s.length→QE (XE s i)=true):XH 47 s=s.length∧XH 46 s=e:=by
 have hd:∀i,i<s.length→i≠e→48≤XE s i:=fun i hi hn=>by
  have:QE (XE s i)=true:=by
   by_cases h:i<e
   ·exact h1 i h
   ·exact h2 i om hi
  unfold QE at this;simp at this;omega
 refine⟨w7 fun j hj=>tY ?_,Co om (MA hm) fun j hj=>tY (by have:=hd j om om;show XE s j≠46;omega)⟩
 show XE s j≠47
 by_cases h:j=e
 ·rw [h,hm];decide
 ·have:=hd j hj h;omega
end Go.PN
