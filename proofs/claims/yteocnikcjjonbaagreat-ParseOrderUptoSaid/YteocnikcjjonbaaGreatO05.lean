/- Parts of one proof, laid by a program. -/
import Derived.Test.YteocnikcjjonbaaGreatO00
import Derived.Test.YteocnikcjjonbaaGreatO04
import Derived.Test.YteocnikcjjonbaaGreatRows
import Derived.WalkKit
import Derived.ProofKit
import Derived.OpenShut
import Derived.JoinedCond
import Derived.Carry
import Derived.ShutString
import Derived.Lib.Bytealg
import Derived.MapKept
import Derived.Laws.Cover3
set_option linter.unusedSimpArgs false
set_option linter.unusedVariables false
set_option maxRecDepth 100000
set_option maxHeartbeats 12800000
namespace Go.AI
open Go.PN
def isF (xs:List Int) (j:Nat):CV:=.int .i64 (xs.getD j 0)
@[go_sem] theorem isF_at (xs:List Int) (j:Nat):isF xs j=.int .i64 (xs.getD j 0):=rfl
abbrev is (t:Bool) (xs:List Int):CV:=.row t 1 xs.length (isF xs)
def bsF (xs:List Bool) (j:Nat):CV:=.bool (xs.getD j false)
@[go_sem] theorem bsF_at (xs:List Bool) (j:Nat):bsF xs j=.bool (xs.getD j false):=rfl
abbrev bs (t:Bool) (xs:List Bool):CV:=.row t 1 xs.length (bsF xs)
def rd0:RD:=⟨false,[],[]⟩
def ratsF (ps:List RD):Nat→CV:=lf 3 (fun r:RD=>[CV.bool r.neg,ws true r.num,ws true r.den]) rd0 ps
@[go_sem] theorem ratsF_0 (ps:List RD) (i:Nat):ratsF ps (i*3)=.bool (ps.getD i rd0).neg:=by
  have:=lf_at (s:=3) (c:=fun r:RD=>[CV.bool r.neg,ws true r.num,ws true r.den]) (d:=rd0) (xs:=ps) (i:=i) (k:=0) om
  exact this
@[go_sem] theorem ratsF_1 (ps:List RD) (i:Nat):ratsF ps (i*3+1)=ws true (ps.getD i rd0).num:=by
  have:=lf_at (s:=3) (c:=fun r:RD=>[CV.bool r.neg,ws true r.num,ws true r.den]) (d:=rd0) (xs:=ps) (i:=i) (k:=1) om
  exact this
@[go_sem] theorem ratsF_2 (ps:List RD) (i:Nat):ratsF ps (i*3+2)=ws true (ps.getD i rd0).den:=by
  have:=lf_at (s:=3) (c:=fun r:RD=>[CV.bool r.neg,ws true r.num,ws true r.den]) (d:=rd0) (xs:=ps) (i:=i) (k:=2) om
  exact this
abbrev rats (t:Bool) (ps:List RD):CV:=.row t 3 ps.length (ratsF ps)
structure DN where
 v:Int
 lo:Int
 hi:Int
 deriving DecidableEq
def dn0:DN:=⟨0,0,0⟩
def dnsF (ns:List DN):Nat→CV:=lf 3 (fun r:DN=>[CV.int .i64 r.v,.int .i64 r.lo,.int .i64 r.hi]) dn0 ns
@[go_sem] theorem dnsF_0 (ps:List DN) (i:Nat):dnsF ps (i*3)=.int .i64 (ps.getD i dn0).v:=by
  have:=lf_at (s:=3) (c:=fun r:DN=>[CV.int .i64 r.v,.int .i64 r.lo,.int .i64 r.hi]) (d:=dn0) (xs:=ps) (i:=i) (k:=0) om
  exact this
@[go_sem] theorem dnsF_1 (ps:List DN) (i:Nat):dnsF ps (i*3+1)=.int .i64 (ps.getD i dn0).lo:=by
  have:=lf_at (s:=3) (c:=fun r:DN=>[CV.int .i64 r.v,.int .i64 r.lo,.int .i64 r.hi]) (d:=dn0) (xs:=ps) (i:=i) (k:=1) om
  exact this
@[go_sem] theorem dnsF_2 (ps:List DN) (i:Nat):dnsF ps (i*3+2)=.int .i64 (ps.getD i dn0).hi:=by
  have:=lf_at (s:=3) (c:=fun r:DN=>[CV.int .i64 r.v,.int .i64 r.lo,.int .i64 r.hi]) (d:=dn0) (xs:=ps) (i:=i) (k:=2) om
  exact this
structure DG where
 order:List Int
 nodes:List DN
 root:Int
structure FN where
 kind:Int
 k:Int
 args:List Int
def fn0:FN:=⟨0,0,[]⟩
def fnsF (ns:List FN):Nat→CV:=lf 3 (fun r:FN=>[CV.int .i64 r.kind,.int .i64 r.k,is true r.args]) fn0 ns
@[go_sem] theorem fnsF_0 (ps:List FN) (i:Nat):fnsF ps (i*3)=.int .i64 (ps.getD i fn0).kind:=by
  have:=lf_at (s:=3) (c:=fun r:FN=>[CV.int .i64 r.kind,.int .i64 r.k,is true r.args]) (d:=fn0) (xs:=ps) (i:=i) (k:=0) om
  exact this
@[go_sem] theorem fnsF_1 (ps:List FN) (i:Nat):fnsF ps (i*3+1)=.int .i64 (ps.getD i fn0).k:=by
  have:=lf_at (s:=3) (c:=fun r:FN=>[CV.int .i64 r.kind,.int .i64 r.k,is true r.args]) (d:=fn0) (xs:=ps) (i:=i) (k:=1) om
  exact this
@[go_sem] theorem fnsF_2 (ps:List FN) (i:Nat):fnsF ps (i*3+2)=is true (ps.getD i fn0).args:=by
  have:=lf_at (s:=3) (c:=fun r:FN=>[CV.int .i64 r.kind,.int .i64 r.k,is true r.args]) (d:=fn0) (xs:=ps) (i:=i) (k:=2) om
  exact this
structure FM where
 vars:Int
 nodes:List FN
 top:Int
def errC (T:TypeId) (c:Int):CV:=if c=0 then .nilI else .ifc T (.int .i64 c)
@[go_sem] theorem errC_solid (T:TypeId) (c:Int):(errC T c).solid=true:=by unfold errC;split<;>rfl
theorem binAV_errE {P:Program} {nw:Bool} {t T:TypeId} {y:Operand} {c:Int} (hy:isNil y=true):binAV P nw .eql t y (.c (errC T c)) (.c .nilI)=some (tIfc P t=true,.c (.bool (decide (c=0)))):=by
 unfold errC
 split
 ·rename_i h;simp [binAV,hy,nilAV,h]
 ·rename_i h;simp [binAV,hy,nilAV,h]
theorem binAV_errN {P:Program} {nw:Bool} {t T:TypeId} {y:Operand} {c:Int} (hy:isNil y=true):binAV P nw .neq t y (.c (errC T c)) (.c .nilI)=some (tIfc P t=true,.c (.bool (!decide (c=0)))):=by
 unfold errC
 split
 ·rename_i h;simp [binAV,hy,nilAV,h]
 ·rename_i h;simp [binAV,hy,nilAV,h]
@[go_sem ↓] theorem binAV_errE' (P:Program) (nw:Bool) (t T:TypeId) (c:Int):binAV P nw .eql t (.const .nilIface) (.c (errC T c)) (.c .nilI)=some (tIfc P t=true,.c (.bool (decide (c=0)))):=binAV_errE rfl
@[go_sem ↓] theorem binAV_errN' (P:Program) (nw:Bool) (t T:TypeId) (c:Int):binAV P nw .neq t (.const .nilIface) (.c (errC T c)) (.c .nilI)=some (tIfc P t=true,.c (.bool (!decide (c=0)))):=binAV_errN rfl
theorem ler_err {h:Heap} {T:TypeId} {c:Int}:LeR h (errC T c) (errC T c):=by unfold errC;split;exact .nilI;exact .ifc (.int _ _)
theorem ler_err0 {h:Heap} {T:TypeId} {c:Int} (e:c=0):LeR h .nilI (errC T c):=by unfold errC;rw [if_pos e];exact .nilI
theorem ler_errN {h:Heap} {T:TypeId} {n c:Int} (e:n=c) (h0:c≠0):LeR h (.ifc T (.int .i64 n)) (errC T c):=by unfold errC;rw [if_neg h0,e];exact .ifc (.int _ _)
theorem lf_ler {α:Type} {h:Heap} {s:Nat} {c:α→List CV} {d:α} {xs:List α} (hs:0<s) (hc:∀x∈xs,∀k,k<s→LeR h (ofL (c x) k) (ofL (c x) k)):∀j,j<xs.length*s→LeR h (lf s c d xs j) (lf s c d xs j):=fun j hj=>by
 unfold lf
 have h1:j/s<xs.length:=(Nat.div_lt_iff_lt_mul hs).2 hj
 rw [List.getD_eq_getElem?_getD,List.getElem?_eq_getElem h1]
 exact hc _ (List.getElem_mem h1) _ (Nat.mod_lt _ hs)
theorem ler_rats {h:Heap} {t:Bool} {ps:List RD}:LeR h (rats true ps) (rats t ps):=
 .row (lf_ler om fun x _ k hk=>by match k,hk with|0,_=>exact .bool _|1,_=>exact ler_ws|2,_=>exact ler_ws)
end Go.AI
namespace Go.Proofs.YteocnikcjjonbaaGreat
open Go.AI Go.PN
attribute [local irreducible] aw Fa Fh DrK
abbrev errA (c:Int):CV:=errC 51 c
theorem list_ext {xs ys:List Nat} (hl:xs.length=ys.length) (h:∀j,j<xs.length→xs.getD j 0=ys.getD j 0):xs=ys:=by
 apply List.ext_getElem hl
 intro i h1 h2
 have:=h i h1
 rw [List.getD_eq_getElem?_getD,List.getD_eq_getElem?_getD,List.getElem?_eq_getElem h1,List.getElem?_eq_getElem h2] at this
 exact this
theorem words_fa (xs ys:List Nat) (hl:xs.length≤68719476736):Fa Tryz.prog 57 [.c (ws false xs),.c (ws false ys)] (.c (.bool (decide (xs=ys)))):=by
 refine fa_of_body Tryz.func57 rfl rfl (by simp [Tryz.ntmps57]) fun C hC=> ?_
 simp only [initS,Nat.reduceAdd]
 refine xG ?_
 refine xF (fun hb=>?_) fun hb=>?_
 ·refine xGT hC ?_
  refine .one (.c (ler_bool ?_))
  have:xs≠ys:=fun e=>by rw [e] at hb;simp at hb
  simp [this]
 ·have hlen:xs.length=ys.length:=by
   have h0:=hb
   simp at h0
   omega
  refine xG ?_
  refine aw_lp (fun i:Nat=>[(0,.c (ws false xs)),(1,.c (ws false ys)),(12,.c (.int .i64 xs.length)),(13,.c (.int .i64 i))]) (fun _=>[]) (fun i=>i≤xs.length∧∀j,j<i→xs.getD j 0=ys.getD j 0) (fun i=>xs.length-i) 0 eB zZ ⟨Nat.zero_le _,fun j hj=>by omega⟩ ?_
  rintro i ⟨hi,hs⟩
  refine xG ?_
  refine xF (fun hb=>?_) fun hb=>?_
  ·have hin:i<xs.length:=dT hb
   refine xG ?_
   refine aw_dr 9 ty_mixed (by kernel_rfl) ?_
   refine xG ?_
   refine xF (fun hc=>?_) fun hc=>?_
   ·refine xGT hC ?_
    refine .one (.c (ler_bool ?_))
    have:xs≠ys:=fun e=>by rw [e] at hc;simp at hc
    simp [this]
   ·have he:xs.getD i 0=ys.getD i 0:=by
     by_cases e:xs.getD i 0=ys.getD i 0
     ·exact e
     ·exfalso
      have e2:((xs.getD i 0:Nat):Int)≠((ys.getD i 0:Nat):Int):=fun z=>e (Int.ofNat.inj z)
      first
       |(rw [bne,beq_eq_false_iff_ne.2 e2] at hc;cases hc)
       |(rw [bne,beq_eq_false_iff_ne.2 e] at hc;cases hc)
    refine xG ?_
    refine aw_stop ⟨i+1,by omega,eB,zZ,by omega,fun j hj=> ?_⟩
    by_cases hji:j=i
    ·rw [hji];exact he
    ·exact hs j om
  ·have hin:i=xs.length:=dF hb
   subst hin
   refine xGT hC ?_
   refine .one (.c (ler_bool ?_))
   have:xs=ys:=list_ext hlen hs
   simp [this]
instance:DecidableEq RD:=fun a b=>decidable_of_iff (a.neg=b.neg∧a.num=b.num∧a.den=b.den) (by cases a;cases b;simp)
theorem ratEq_fa (a b:RD) (hw:a.wf 68719476736):Fa Tryz.prog 19 [.agg (rdc a),.agg (rdc b)] (.c (.bool (decide (a=b)))):=by
 have he:decide (a=b)=(decide (a.neg=b.neg)&&(decide (a.num=b.num)&&decide (a.den=b.den))):=by
  rw [Bool.eq_iff_iff]
  simp only [decide_eq_true_eq,Bool.and_eq_true]
  cases a;cases b;simp
 rw [he]
 refine fa_of_body Tryz.func19 rfl rfl (by simp [Tryz.ntmps19]) fun C hC=> ?_
 simp only [initS,Nat.reduceAdd]
 refine xG ?_
 refine xB fun g2 hn_g2=>?_
 refine yB hn_g2 fun g3 hn_g3=>?_
 have J1:=oj hn_g2 hn_g3
 refine yG J1 ?_
 refine aw_split 10 (zE J1) (fun h1=> ?_) (fun h1=> ?_)<;>refine yS J1 ?_
 ·have h1':a.neg=b.neg:=eq_of_beq h1
  refine yG J1 ?_
  refine yC J1 (words_fa _ _ hw.2.2.1) ?_
  refine yG J1 ?_
  refine aw_split 17 (zE J1) (fun h2=> ?_) (fun h2=> ?_)<;>refine yS J1 ?_
  ·refine yG J1 ?_
   refine yC J1 (words_fa _ _ hw.2.2.2) ?_
   refine yGT hC J1 ?_
   exact .one (.c (ler_bool (by rw [h2,h1'];simp)))
  ·refine yGT hC J1 ?_
   exact .one (.c (ler_bool (by rw [h2];simp)))
 ·have h1':a.neg≠b.neg:=fun e=>by rw [e] at h1;simp at h1
  refine yGT hC J1 ?_
  exact .one (.c (ler_bool (by simp [h1'])))
end Go.Proofs.YteocnikcjjonbaaGreat
namespace Go.AI
open Go.PN
def AllB (w:World):Bool→Nat→Prop:=fun _ b=>b<w.heap.size
theorem Fa.below {P:Program} {f:FuncId} {args:List AV} {b:Bool} (hf:Fa P f args (.c (.bool b))) {w:World} {vs:List Value} (hr:RepT (AllB w) w args vs):
  Calls P f vs.toArray w fun e w'=>e=.returned (.bool b)∧RowKit.Below w.heap.size w w':=by
 refine(hf.2 (AllB w) w vs (fun _ h=>h) (fun _ _ h=>h) hr).mono ?_
 rintro e w' ⟨v,rfl,hv,hfr⟩
 have hv':v=.bool b:=hv
 subst hv'
 exact⟨rfl,hfr.os,hfr.tape,hfr.output,hfr.size,fun k hk=>hfr.block k hk (fun x=>x)⟩
end Go.AI
namespace Go.Proofs.YteocnikcjjonbaaGreat
open Go.AI Go.PN Go.ChangeShapes
section
variable {P : Program}
def Rdr (P:Program) (t:TypeId) {α:Type} (c:α→List CV) (B:α→Nat→Prop):Prop:=
 ∀(H:Type) (enc:TypeId×Value→H) (w:World) (fuel:Nat) (cs:List Value) (x:DataW H×List MemPlace),DataW.trod enc P w 0 (fun _=>true) true fuel t cs=some x→∃y,RepL (AllB w) w (c y) cs∧B y (Rows.uptoBulk x.1)
theorem bulk_mem {H:Type} {d:DataW H}:∀{l:List (DataW H)},d∈l→Rows.uptoBulk d≤Rows.uptoBulkAll l
 |x::r,h=>by
  simp only [Rows.uptoBulkAll]
  cases List.mem_cons.1 h with
  |inl e=>subst e;omega
  |inr e=>have:=bulk_mem e;omega
theorem bulk_one {H:Type} (d:DataW H):1≤Rows.uptoBulk d:=by
 cases d with
 |lit l=>cases l<;>simp [Rows.uptoBulk]
 |nil=>simp [Rows.uptoBulk]
 |ptr d=>simp [Rows.uptoBulk]
 |slice elems spare=>simp [Rows.uptoBulk]
 |agg parts=>simp [Rows.uptoBulk]
 |iface t d=>simp [Rows.uptoBulk]
 |map entries=>simp [Rows.uptoBulk]
 |held h=>simp [Rows.uptoBulk]
theorem bulk_len {H:Type}:∀(l:List (DataW H)),l.length≤Rows.uptoBulkAll l
 |[]=>by simp [Rows.uptoBulkAll]
 |x::r=>by have:=bulk_one x;have:=bulk_len r;simp only [Rows.uptoBulkAll,List.length_cons];omega
theorem rdr_slice {t e:TypeId} {α:Type} {c:α→List CV} {B:α→Nat→Prop} {s:Nat} (z:α) (tg:Bool) (ht:P.underlying t=some (.slice e)) (hs:P.cellsOf e=s) (hs0:0<s) (hB:∀y m n,B y m→m≤n→B y n) (hr:Rdr P e c B):
  Rdr P t (fun ys:List α=>[CV.row tg s ys.length (lf s c z ys)]) (fun ys n=>ys.length≤n∧∀y∈ys,B y n):=fun H enc w fuel cs x h=>by
 rcases DataW.trod_slice ht h with ⟨rfl,rfl⟩|⟨a,len,cap,elems,rest,n,rfl,rfl,rfl,_,hlc,_,hlen,hel,_,_⟩
 ·exact⟨[],⟨⟨none,0,rfl,Nat.le_refl _,fun h0=>by simp at h0⟩,trivial⟩,by simp,by simp⟩
 ·have key:∀i,∃y:α,i<len→∃d∈elems.map (·.1),B y (Rows.uptoBulk d)∧∀k,k<s→∃u,w.cell? (a.add (i*s+k))=some u∧RepC (AllB w) w (ofL (c y) k) u:=by
   intro i
   by_cases hi:i<len
   ·have h1:=hel i hi
    have h2:i<elems.length:=by omega
    rw [List.getElem?_eq_getElem h2,hs] at h1
    obtain⟨us,hus,htr⟩:=Option.bind_eq_some_iff.1 h1
    obtain⟨y,hy,hb⟩:=hr H enc w n us _ htr
    obtain⟨_,hul,hue⟩:=World.cells?_some hus
    refine⟨y,fun _=>⟨_,List.mem_map.2 ⟨_,List.getElem_mem h2,rfl⟩,hb,fun k hk=> ?_⟩⟩
    have hlen2:=hy.length
    obtain⟨u,hu,hru⟩:=hy.get k ((c y)[k]'om) (List.getElem?_eq_getElem om)
    refine⟨u,?_,by rw [ofL_get (c y) k _ (List.getElem?_eq_getElem om)];exact hru⟩
    rw [←add_add]
    exact(hue k hk).trans hu
   ·exact⟨z,fun h=>absurd h hi⟩
  obtain⟨g,hg⟩:∃g:Nat→α,∀i,i<len→∃d∈elems.map (·.1),B (g i) (Rows.uptoBulk d)∧∀k,k<s→∃u,w.cell? (a.add (i*s+k))=some u∧RepC (AllB w) w (ofL (c (g i)) k) u:=⟨fun i=>Classical.choose (key i),fun i=>Classical.choose_spec (key i)⟩
  have hbl:∀d∈elems.map (·.1),Rows.uptoBulk d≤Rows.uptoBulk (.slice (elems.map (·.1)) (rest.map (·.1))):=fun d hd=>by
   have:=bulk_mem hd
   simp only [Rows.uptoBulk];omega
  refine⟨(List.range len).map g,⟨⟨some a,cap,by simp,by simpa using hlc,fun h0=>⟨a,rfl,?_,fun j hj=> ?_⟩⟩,trivial⟩,?_,fun y hy=> ?_⟩
  ·simp only [List.length_map,List.length_range] at h0
   have hl0:0<len:=Nat.pos_of_ne_zero (fun e=>by subst e;simp at h0)
   obtain⟨_,_,_,hk⟩:=hg 0 hl0
   obtain⟨u,hu,_⟩:=hk 0 hs0
   have hb:=AI.block_add a (0*s+0)
   unfold World.cell? at hu
   rw [hb] at hu
   show a.block<w.heap.size
   by_cases hlt:a.block<w.heap.size
   ·exact hlt
   ·rw [Array.getElem?_eq_none om] at hu
    cases hu
  ·simp only [List.length_map,List.length_range] at hj
   have hi:j/s<len:=(Nat.div_lt_iff_lt_mul hs0).2 hj
   obtain⟨_,_,_,hk⟩:=hg (j/s) hi
   obtain⟨u,hu,hru⟩:=hk (j%s) (Nat.mod_lt _ hs0)
   refine⟨u,?_,?_⟩
   ·rw [Nat.mul_comm,Nat.div_add_mod] at hu;exact hu
   ·unfold lf
    rw [List.getD_eq_getElem?_getD]
    simpa [hi] using hru
  ·rw [List.length_map,List.length_range]
   have:=bulk_len (elems.map (·.1))
   simp only [Rows.uptoBulk]
   rw [List.length_map] at this
   omega
  ·obtain⟨i,hi,rfl⟩:=List.mem_map.1 hy
   obtain⟨d,hd,hb,_⟩:=hg i (List.mem_range.1 hi)
   exact hB _ _ _ hb (hbl d hd)
theorem Rdr.to {t:TypeId} {α β:Type} {c:α→List CV} {c':β→List CV} {B:α→Nat→Prop} {B':β→Nat→Prop} (hr:Rdr P t c B) (f:α→β) (hc:∀y,c' (f y)=c y) (hB:∀y n,B y n→B' (f y) n):Rdr P t c' B':=fun H enc w fuel cs x h=>by
 obtain⟨y,h1,h2⟩:=hr H enc w fuel cs x h
 exact⟨f y,by rw [hc];exact h1,hB _ _ h2⟩
end
end Go.Proofs.YteocnikcjjonbaaGreat
namespace Go.Proofs.YteocnikcjjonbaaGreat
open Go.AI Go.PN Go.ChangeShapes Go.WideShapes Go.RowKit
theorem glue_laid:laidOutB Tryz.prog=true:=by kernel_rfl
theorem own:ownKnob Tryz.prog.godebug=none:=by kernel_rfl
section
variable {H : Type} {enc : TypeId × Value → H} {P : Program}
theorem trodAll_stays (hl:laidOutB P=true) {W W':World} {sp:Nat→Bool}:∀{ts:List TypeId} {vs:List Value} {ds:List (DataW H)} {p:List MemPlace},(∀t∈ts,P.readableRec t=true∧t<P.types.size)→DataW.TrodAll enc P W 0 (fun _=>true) true ts vs ds p→(∀x∈p,W.sameAt W' x)→(∀x∈p,sp x.block=true)→DataW.TrodAll enc P W' 0 sp true ts vs ds p
 |[],_,_,_,_,h,_,_=>by
  obtain⟨rfl,rfl,rfl⟩:=trodAll_nil h
  exact rfl
 |t::ts,_,_,_,hts,h,hs,hp=>by
  obtain⟨v,vs,d,ds,a,b,rfl,rfl,rfl,h1,h2⟩:=trodAll_cons h
  exact⟨a,b,WideElems.Trod_stays hl (hts t (List.mem_cons_self ..)).1 (hts t (List.mem_cons_self ..)).2 h1 (fun x hx=>hs x (List.mem_append_left _ hx)) (fun x hx=>hp x (List.mem_append_left _ hx)),
   trodAll_stays hl (fun t' ht=>hts t' (List.mem_cons_of_mem _ ht)) h2 (fun x hx=>hs x (List.mem_append_right _ hx)) (fun x hx=>hp x (List.mem_append_right _ hx)),rfl⟩
theorem post_of_below {fn:Func} {s:ChangeSpec} {W W':World} {args:Array Value} {ds gs:List (DataW H)} {before:List MemPlace} {tb:TypeId} (hl:laidOutB P=true) (hts:∀t∈fn.params.toList,P.readableRec t=true∧t<P.types.size) (hrt:fn.resultTypes= #[tb]) (hbt:P.underlying tb=some .bool) (hvars:s.vars=[])
  (hW:DataW.Whole enc P fn.params.toList s.vars false W args.toList ds gs before) (hfn:∀gs':List (DataW H),gs'=[]→s.fn H (ds++gs')={results:=[.lit (.bool true)],args:=ds}) (hb:Below W.heap.size W W'):s.post enc P fn false true false false W args (.bool true) W':=by
 have hWk:=hW
 obtain⟨p,q,hA,hV,rfl,hfz,_⟩:=hW
 rw [hvars] at hV
 obtain⟨rfl,rfl⟩:=trodVars_none hV
 have hlt:∀x∈p++[],x.block<W.heap.size:=fun x hx=>by simpa using hWk.lt x hx
 have hlt':∀x∈p,x.block<W.heap.size:=fun x hx=>hlt x (List.mem_append_left _ hx)
 have hres:∀(b:Nat) (sp:Nat→Bool) (hd:Bool),DataW.TrodAll enc P W' b sp hd fn.resultTypes.toList ((Value.bool true).resultList fn.resultTypes.size) (s.fn H (ds++[])).results []:=fun b sp hd=>by
  rw [hrt,hfn [] rfl]
  exact trodAll_cons_mk (shut_bool hbt _) trodAll_mk0
 have hargs:∀sp:Nat→Bool,(∀x∈p,sp x.block=true)→DataW.TrodAll enc P W' 0 sp true fn.params.toList args.toList (s.fn H (ds++[])).args p:=fun sp hsp=>by
  rw [hfn [] rfl]
  exact trodAll_stays hl hts hA (fun x hx=>hb.same (hlt' x hx)) hsp
 have hvr:∀sp:Nat→Bool,DataW.TrodVars enc P W' sp s.vars (s.fn H (ds++[])).vars []:=fun sp=>by
  rw [hvars,hfn [] rfl];exact rfl
 refine⟨ds,[],p++[],[],p,[],hWk,hres _ _ _,hargs _ (fun x hx=>by simpa using hlt' x hx),hvr _,hb.frame _,fun _=> ?_⟩
 refine⟨ok_one hrt rfl (okWide_bool_mk hbt _),_,_,([]++p)++[],⟨[]++p,[],trodAll_append (hargs _ (fun _ _=>rfl)) (hres _ _ _),hvr _,rfl,?_,fun h=>by cases h⟩,?_⟩
 ·intro b off hp
  have hp':MemPlace.cell b off∈p++[]:=by simpa using hp
  rw [Below.frozen hb (hlt _ hp')]
  exact hfz b off hp'
 ·intro x hx _
  simpa using hx
theorem arg_cell {α:Type} {c:α→CV} {B:α→Nat→Prop} {t:TypeId} (hr:Rdr P t (fun y=>[c y]) B) {W:World} {v:Value} {d:DataW H} {p:List MemPlace} (hv:v.cells= #[v]) (h:DataW.Trod enc P W 0 (fun _=>true) true t v d p):
  ∃y,Rep0 (AllB W) W (.c (c y)) v∧B y (Rows.uptoBulk d):=by
 obtain⟨fuel,hf⟩:=h
 rw [hv] at hf
 obtain⟨y,h1,h2⟩:=hr H enc W fuel _ _ hf
 exact⟨y,h1.1,h2⟩
end
theorem rdr_nat8 {P:Program} {t:TypeId} (ht:P.underlying t=some (.int .u8)):Rdr P t (fun n:Nat=>[.int .u8 n]) (fun n _=>n≤255):=fun H enc w fuel cs x h=>by
 obtain⟨n,rfl,rfl,hw⟩:=DataW.trod_int ht h
 have hb:0≤n∧n≤255:=by simpa [Lit.wf,IntKind.min,IntKind.max,IntKind.signed,IntKind.bits] using hw
 refine⟨n.toNat,⟨?_,trivial⟩,by omega⟩
 show Value.int .u8 n=Value.int .u8 ((n.toNat:Nat):Int)
 rw [show((n.toNat:Nat):Int)=n from by omega]
theorem rdr_nat16 {P:Program} {t:TypeId} (ht:P.underlying t=some (.int .u16)):Rdr P t (fun n:Nat=>[.int .u16 n]) (fun n _=>n≤65535):=fun H enc w fuel cs x h=>by
 obtain⟨n,rfl,rfl,hw⟩:=DataW.trod_int ht h
 have hb:0≤n∧n≤65535:=by simpa [Lit.wf,IntKind.min,IntKind.max,IntKind.signed,IntKind.bits] using hw
 refine⟨n.toNat,⟨?_,trivial⟩,by omega⟩
 show Value.int .u16 n=Value.int .u16 ((n.toNat:Nat):Int)
 rw [show((n.toNat:Nat):Int)=n from by omega]
end Go.Proofs.YteocnikcjjonbaaGreat
namespace Go.PN
def isLet (n:Nat):Bool:=(decide (65≤n)&&decide (n≤90))||(decide (97≤n)&&decide (n≤122))
def isDig (n:Nat):Bool:=decide (48≤n)&&decide (n≤57)
def isIns (n:Nat):Bool:=((isLet n||isDig n)||n==95)||n==46
def isBlk (n:Nat):Bool:=n==32||(n==9||(n==10||n==13))
def isSgn (n:Nat):Bool:=n==123||(n==125||(n==59||(n==58||n==64)))
theorem bAt_lt (l:BS) (i:Nat):bAt l i<256:=UInt8.toNat_lt _
def spanE (p:Nat→Bool) (l:BS) (i:Nat):Nat:=i+((l.drop i).takeWhile fun b=>p b.toNat).length
theorem spanE_ge (p:Nat→Bool) (l:BS) (i:Nat):i≤spanE p l i:=Nat.le_add_right ..
theorem spanE_le {p:Nat→Bool} {l:BS} {i:Nat} (h:i≤l.length):spanE p l i≤l.length:=by
 unfold spanE
 have h1:((l.drop i).takeWhile fun b=>p b.toNat).length≤(l.drop i).length:=(List.takeWhile_sublist _).length_le
 rw [List.length_drop] at h1
 omega
theorem spanE_out {p:Nat→Bool} {l:BS} {i:Nat} (h:l.length≤i):spanE p l i=i:=by
 unfold spanE
 rw [List.drop_eq_nil_of_le h];rfl
theorem drop_bAt {l:BS} {i:Nat} (h:i<l.length):l.drop i=l[i]::l.drop (i+1):=List.drop_eq_getElem_cons h
theorem bAt_get {l:BS} {i:Nat} (h:i<l.length):bAt l i=l[i].toNat:=by
 unfold bAt
 rw [List.getD_eq_getElem?_getD,List.getElem?_eq_getElem h];rfl
theorem spanE_yes {p:Nat→Bool} {l:BS} {i:Nat} (h:i<l.length) (hp:p (bAt l i)=true):spanE p l i=spanE p l (i+1):=by
 unfold spanE
 rw [drop_bAt h,List.takeWhile_cons_of_pos (by rw [←bAt_get h];exact hp),List.length_cons]
 omega
theorem spanE_no {p:Nat→Bool} {l:BS} {i:Nat} (h:i<l.length) (hp:p (bAt l i)=false):spanE p l i=i:=by
 unfold spanE
 rw [drop_bAt h,List.takeWhile_cons_of_neg (by rw [←bAt_get h,hp];simp)]
 rfl
theorem spanE_in {p:Nat→Bool} {l:BS}:∀(k i:Nat),spanE p l i=i+k→∀j,i≤j→j<i+k→p (bAt l j)=true:=by
 intro k
 induction k with
 |zero=>intro i _ j h1 h2;omega
 |succ k ih=>
  intro i h j h1 h2
  by_cases hi:i<l.length
  ·cases hp:p (bAt l i) with
   |false=>rw [spanE_no hi hp] at h;omega
   |true=>
    by_cases e:j=i
    ·rw [e];exact hp
    ·rw [spanE_yes hi hp] at h
     exact ih (i+1) om j om om
  ·rw [spanE_out om] at h;omega
theorem spanE_at {p:Nat→Bool} {l:BS} {i:Nat} (h:spanE p l i<l.length):p (bAt l (spanE p l i))=false:=by
 generalize hk:l.length-i=k
 induction k generalizing i with
 |zero=>have:=spanE_ge p l i;omega
 |succ k ih=>
  have hi:i<l.length:=by omega
  cases hp:p (bAt l i) with
  |false=>rw [spanE_no hi hp];exact hp
  |true=>rw [spanE_yes hi hp] at h⊢;exact ih h om
def numE (l:BS) (i:Nat):Nat:=
 if spanE isDig l i+1<l.length∧(bAt l (spanE isDig l i)=46∨bAt l (spanE isDig l i)=47)∧isDig (bAt l (spanE isDig l i+1))=true then spanE isDig l (spanE isDig l i+1) else spanE isDig l i
theorem numE_ge (l:BS) (i:Nat):i≤numE l i:=by
 have h1:=spanE_ge isDig l i
 have h2:=spanE_ge isDig l (spanE isDig l i+1)
 unfold numE
 split<;>omega
theorem numE_le {l:BS} {i:Nat} (h:i≤l.length):numE l i≤l.length:=by
 unfold numE
 split
 ·rename_i h1;exact spanE_le om
 ·exact spanE_le h
structure TK where
 kind:Nat
 text:BS
deriving DecidableEq,Inhabited
theorem cutS_len {l:BS} {i e:Nat} (he:e≤l.length):(cutS l i e).length=e-i:=by
 unfold cutS
 rw [List.length_take,List.length_drop];omega
inductive Stp where
 |err (c:Int)
 |skip (e:Nat)
 |tok (k e:Nat)
def stepT (l:BS) (i:Nat):Stp:=
 if isBlk (bAt l i) then .skip (i+1)
 else if bAt l i=35 then .skip (spanE (fun b=>b !=10) l i)
 else if isLet (bAt l i) then(if spanE isIns l i-i>24 then .err 5 else .tok 0 (spanE isIns l i))
 else if isDig (bAt l i) then(if numE l i<l.length∧(isIns (bAt l (numE l i))=true∨bAt l (numE l i)=47) then .err 2 else .tok 1 (numE l i))
 else if isSgn (bAt l i) then .tok 2 (i+1)
 else .err 2
theorem isLet_ins {n:Nat} (h:isLet n=true):isIns n=true:=by unfold isIns;rw [h];rfl
theorem stepT_skip {l:BS} {i e:Nat} (hi:i<l.length) (h:stepT l i=.skip e):i<e∧e≤l.length:=by
 unfold stepT at h
 split at h
 ·injection h with h;omega
 ·split at h
  ·rename_i h35
   injection h with h
   have h1:=spanE_yes (p:=fun b=>b !=10) hi (by rw [h35];rfl)
   have h2:=spanE_ge (fun b=>b !=10) l (i+1)
   have h3:=spanE_le (p:=fun b=>b !=10) (l:=l) (i:=i) om
   omega
  ·split at h
   ·split at h<;>cases h
   ·split at h
    ·split at h<;>cases h
    ·split at h<;>cases h
theorem stepT_tok {l:BS} {i k e:Nat} (hi:i<l.length) (h:stepT l i=.tok k e):i<e∧e≤l.length:=by
 unfold stepT at h
 split at h
 ·cases h
 ·split at h
  ·cases h
  ·split at h
   ·rename_i hl
    split at h
    ·cases h
    ·injection h with _ h
     have h1:=spanE_yes (p:=isIns) hi (isLet_ins hl)
     have h2:=spanE_ge isIns l (i+1)
     have h3:=spanE_le (p:=isIns) (l:=l) (i:=i) om
     omega
   ·split at h
    ·rename_i hd
     split at h
     ·cases h
     ·injection h with _ h
      have h1:=spanE_yes (p:=isDig) hi hd
      have h2:=spanE_ge isDig l (i+1)
      have h3:=numE_le (l:=l) (i:=i) om
      have h4:spanE isDig l i≤numE l i:=by
       have:=spanE_ge isDig l (spanE isDig l i+1)
       unfold numE
       split<;>omega
      omega
    ·split at h
     ·injection h with _ h;omega
     ·cases h
def splitT (l:BS):Nat→Nat→List TK→Int×List TK
 |0,_,out=>(0,out)
 |n+1,i,out=>if i<l.length then(match stepT l i with
  |.err c=>(c,[])
  |.skip e=>splitT l n e out
  |.tok k e=>splitT l n e (out++[⟨k,cutS l i e⟩])) else(0,out)
theorem splitT_fuel {l:BS}:∀(n m i:Nat) (out:List TK),l.length-i≤n→l.length-i≤m→splitT l n i out=splitT l m i out:=by
 intro n
 induction n with
 |zero=>
  intro m i out h1 h2
  cases m with
  |zero=>rfl
  |succ m=>unfold splitT;rw [if_neg om]
 |succ n ih=>
  intro m i out h1 h2
  cases m with
  |zero=>unfold splitT;rw [if_neg om]
  |succ m=>
   unfold splitT
   by_cases hi:i<l.length
   ·rw [if_pos hi,if_pos hi]
    cases hs:stepT l i with
    |err c=>rfl
    |skip e=>have:=stepT_skip hi hs;exact ih m e out om om
    |tok k e=>have:=stepT_tok hi hs;exact ih m e _ om om
   ·rw [if_neg hi,if_neg hi]
def splitS (l:BS):Int×List TK:=if l.length>65536 then(4,[]) else splitT l l.length 0 []
theorem splitT_step {l:BS} {i:Nat} {out:List TK} (hi:i<l.length):splitT l (l.length-i) i out=(match stepT l i with
  |.err c=>(c,[])
  |.skip e=>splitT l (l.length-e) e out
  |.tok k e=>splitT l (l.length-e) e (out++[⟨k,cutS l i e⟩])):=by
 obtain⟨n,hn⟩:∃n,l.length-i=n+1:=⟨l.length-i-1,by omega⟩
 rw [hn]
 show(if i<l.length then _ else _)=_
 rw [if_pos hi]
 cases hs:stepT l i with
 |err c=>rfl
 |skip e=>have:=stepT_skip hi hs;exact splitT_fuel _ _ _ _ om om
 |tok k e=>have:=stepT_tok hi hs;exact splitT_fuel _ _ _ _ om om
theorem splitT_end {l:BS} {i:Nat} {out:List TK} (hi:l.length≤i):splitT l (l.length-i) i out=(0,out):=by
 rw [show l.length-i=0 from by omega];rfl
structure TkOk (t:TK):Prop where
 kind:t.kind≤2
 ne:t.text≠[]
 word:t.kind=0→isLet (bAt t.text 0)=true
 num:t.kind=1→isDig (bAt t.text 0)=true
 sgn:t.kind=2→t.text.length=1∧isSgn (bAt t.text 0)=true
end Go.PN
namespace Go.PN
open Go.AI
structure EvD where
 name:BS
 p:RD
 fail:RD
 rep:RD
 cost:Int
structure HsD where
 name:BS
 on:Bool
structure GtD where
 name:BS
 kind:Int
 k:Int
 inputs:List BS
 dorm:RD
structure PgD where
 name:BS
 top:BS
 gates:List GtD
structure GrD where
 name:BS
 kind:Int
 members:List BS
 factors:List RD
structure VlD where
 event:BS
 p:RD
structure PhD where
 name:BS
 top:BS
 values:List VlD
structure MdD where
 name:BS
 top:BS
 events:List EvD
 houses:List HsD
 gates:List GtD
 pages:List PgD
 groups:List GrD
 phases:List PhD
abbrev ev0:EvD:=⟨[],rd0,rd0,rd0,0⟩
abbrev hs0:HsD:=⟨[],false⟩
abbrev gt0:GtD:=⟨[],0,0,[],rd0⟩
abbrev pg0:PgD:=⟨[],[],[]⟩
abbrev gr0:GrD:=⟨[],0,[],[]⟩
abbrev vl0:VlD:=⟨[],rd0⟩
abbrev ph0:PhD:=⟨[],[],[]⟩
abbrev md0:MdD:=⟨[],[],[],[],[],[],[],[]⟩
abbrev kP:BS:=[112]
abbrev kFail:BS:=[102,97,105,108]
abbrev kRepair:BS:=[114,101,112,97,105,114]
abbrev kCost:BS:=[99,111,115,116]
abbrev kSemi:BS:=[59]
abbrev kAt:BS:=[64]
abbrev kColon:BS:=[58]
abbrev kOpen:BS:=[123]
abbrev kClose:BS:=[125]
abbrev kOn:BS:=[111,110]
abbrev kOff:BS:=[111,102,102]
abbrev kTop:BS:=[116,111,112]
abbrev kGate:BS:=[103,97,116,101]
abbrev kBeta:BS:=[98,101,116,97]
abbrev kGreek:BS:=[103,114,101,101,107]
abbrev kModel:BS:=[109,111,100,101,108]
abbrev kEvent:BS:=[101,118,101,110,116]
abbrev kHouse:BS:=[104,111,117,115,101]
abbrev kPage:BS:=[112,97,103,101]
abbrev kGroup:BS:=[103,114,111,117,112]
abbrev kPhase:BS:=[112,104,97,115,101]
abbrev kAnd:BS:=[97,110,100]
abbrev kOr:BS:=[111,114]
abbrev kVote:BS:=[118,111,116,101]
abbrev kNot:BS:=[110,111,116]
abbrev kXor:BS:=[120,111,114]
abbrev kInhibit:BS:=[105,110,104,105,98,105,116]
abbrev kPand:BS:=[112,97,110,100]
abbrev kSpare:BS:=[115,112,97,114,101]
abbrev kDepend:BS:=[100,101,112,101,110,100]
def natB (s:BS):Nat:=s.foldl (fun n b=>n*10+(b.toNat-48)) 0
def idxB (b:UInt8) (s:BS):Nat:=(s.takeWhile (· !=b)).length
def isNum (s:BS):Bool:=decide (0<s.length)&&isDig (bAt s 0)&&numE s 0==s.length
def valC (s:BS):Int:=if s.length>100 then 4 else if isNum s=false then 2
 else if idxB 47 s<s.length∧natB (s.drop (idxB 47 s+1))=0 then 8 else 0
def valQ (s:BS):Rat:=if idxB 47 s<s.length then(natB (s.take (idxB 47 s)):Rat)/(natB (s.drop (idxB 47 s+1)):Rat)
 else(natB (s.take (idxB 46 s)++s.drop (idxB 46 s+1)):Rat)/((10^(s.drop (idxB 46 s+1)).length:Nat):Rat)
def valR (s:BS):RD:=if valC s=0 then rd (valQ s) else rd0
def intQ (q:Rat):Option Int:=if q.den=1∧ -9223372036854775808≤q.num∧q.num≤9223372036854775807 then some q.num else none
structure PS where
 l:List TK
 e:Int
def failS (c:Int) (s:PS):PS:=if s.e=0 then⟨s.l,c⟩ else s
def kindS (s:PS) (k:Nat):Bool:=decide (s.e=0)&&match s.l with|[]=>false|t::_=>t.kind==k
def isS (s:PS) (w:BS):Bool:=decide (s.e=0)&&match s.l with|[]=>false|t::_=>t.kind !=1&&t.text==w
def hdT (s:PS):BS:=match s.l with|[]=>[]|t::_=>t.text
def takeS (may:Bool) (s:PS):BS×PS:=if s.e=0 then(match s.l with
 |[]=>([],⟨[],20⟩)
 |t::l=>if may then(t.text,⟨l,0⟩) else([],⟨t::l,2⟩)) else([],s)
def expS (w:BS) (s:PS):PS:=(takeS (isS s w) s).2
def wordS (s:PS):BS×PS:=takeS (kindS s 0) s
def numS (s:PS):RD×PS:=let r:=takeS (kindS s 1) s
 if r.2.e=0 then(valR r.1,if valC r.1=0 then r.2 else⟨r.2.l,valC r.1⟩) else(rd0,r.2)
def wholeS (s:PS):Int×PS:=let r:=numS s
 if r.2.e=0 then(match intQ r.1.q with
  |some n=>if 0≤n∧n≤1073741824 then(n,r.2) else(0,⟨r.2.l,3⟩)
  |none=>(0,⟨r.2.l,3⟩)) else(0,r.2)
def inputS (s:PS):BS×PS:=if isS s kAt then(let r:=wordS (expS kAt s);(64::r.1,r.2)) else wordS s
def mS (s:PS):Nat:=if s.e=0 then s.l.length+1 else 0
def loopS {α:Type} (c:PS→Bool) (b:α→PS→α×PS):Nat→α→PS→α×PS
 |0,a,s=>(a,s)
 |n+1,a,s=>if s.e=0∧c s=true then loopS c b n (b a s).1 (b a s).2 else(a,s)
def lpS {α:Type} (c:PS→Bool) (b:α→PS→α×PS) (a:α) (s:PS):α×PS:=loopS c b (mS s) a s
theorem loopS_end {α:Type} {c:PS→Bool} {b:α→PS→α×PS} {n:Nat} {a:α} {s:PS} (h:¬(s.e=0∧c s=true)):loopS c b n a s=(a,s):=by
 cases n with
 |zero=>rfl
 |succ n=>unfold loopS;rw [if_neg h]
theorem loopS_fuel {α:Type} {c:PS→Bool} {b:α→PS→α×PS} (hd:∀a s,s.e=0→c s=true→mS (b a s).2<mS s):∀(n m:Nat) (a:α) (s:PS),mS s≤n→mS s≤m→loopS c b n a s=loopS c b m a s:=by
 intro n
 induction n with
 |zero=>
  intro m a s h1 h2
  have:¬(s.e=0∧c s=true):=fun h=>by unfold mS at h1;rw [if_pos h.1] at h1;omega
  rw [loopS_end this,loopS_end this]
 |succ n ih=>
  intro m a s h1 h2
  by_cases h:s.e=0∧c s=true
  ·have h3:=hd a s h.1 h.2
   cases m with
   |zero=>omega
   |succ m=>
    unfold loopS
    rw [if_pos h,if_pos h]
    exact ih m _ _ om om
  ·rw [loopS_end h,loopS_end h]
theorem lpS_step {α:Type} {c:PS→Bool} {b:α→PS→α×PS} (hd:∀a s,s.e=0→c s=true→mS (b a s).2<mS s) {a:α} {s:PS} (h0:s.e=0) (h1:c s=true):lpS c b a s=lpS c b (b a s).1 (b a s).2:=by
 have h3:=hd a s h0 h1
 unfold lpS
 obtain⟨n,hn⟩:∃n,mS s=n+1:=⟨mS s-1,by omega⟩
 rw [hn]
 show(if _ then _ else _)=_
 rw [if_pos ⟨h0,h1⟩]
 exact loopS_fuel hd _ _ _ _ om (Nat.le_refl _)
theorem lpS_end {α:Type} {c:PS→Bool} {b:α→PS→α×PS} {a:α} {s:PS} (h:¬(s.e=0∧c s=true)):lpS c b a s=(a,s):=loopS_end h
def evB (x:List BS×EvD) (s:PS):(List BS×EvD)×PS:=
 let may:=isS s kP||isS s kFail||isS s kRepair||isS s kCost
 if may&&x.1.contains (hdT s) then(x,failS 6 s) else
 let r:=takeS may s
 if r.1==kP then((r.1::x.1,{x.2 with p:=(numS r.2).1}),(numS r.2).2)
 else if r.1==kFail then((r.1::x.1,{x.2 with fail:=(numS r.2).1}),(numS r.2).2)
 else if r.1==kRepair then((r.1::x.1,{x.2 with rep:=(numS r.2).1}),(numS r.2).2)
 else if r.1==kCost then((r.1::x.1,{x.2 with cost:=(wholeS r.2).1}),(wholeS r.2).2)
 else((r.1::x.1,x.2),r.2)
def eventS (s:PS):EvD×PS:=let r:=wordS s
 let q:=lpS (fun s=> !isS s kSemi) evB ([],{ev0 with name:=r.1}) r.2
 (q.1.2,expS kSemi q.2)
def houseS (s:PS):HsD×PS:=let r:=wordS s
 let q:=takeS (isS r.2 kOn||isS r.2 kOff) r.2
 (⟨r.1,q.1==kOn⟩,expS kSemi q.2)
def gkind (w:BS):Option Int:=if w==kAnd then some 0 else if w==kOr then some 1 else if w==kVote then some 2 else if w==kNot then some 3 else if w==kXor then some 4
 else if w==kInhibit then some 5 else if w==kPand then some 6 else if w==kSpare then some 7 else if w==kDepend then some 8 else none
def inB (x:List BS) (s:PS):List BS×PS:=(x++[(inputS s).1],(inputS s).2)
def gateS (s:PS):GtD×PS:=let r:=wordS s
 let k:=if kindS r.2 0 then gkind (hdT r.2) else none
 let s2:=(takeS k.isSome r.2).2
 let v:=if k=some 2 then wholeS s2 else(0,s2)
 let d:=if k=some 7 then numS v.2 else(rd0,v.2)
 let q:=lpS (fun s=> !isS s kSemi) inB [] d.2
 (⟨r.1,k.getD 0,v.1,q.1,d.1⟩,expS kSemi q.2)
def pgB (x:List GtD) (s:PS):List GtD×PS:=(x++[(gateS (expS kGate s)).1],(gateS (expS kGate s)).2)
def pageS (s:PS):PgD×PS:=let r:=wordS s
 let t:=inputS (expS kTop r.2)
 let q:=lpS (fun s=> !isS s kClose) pgB [] (expS kOpen t.2)
 (⟨r.1,t.1,q.1⟩,expS kClose q.2)
def facB (x:List RD) (s:PS):List RD×PS:=(x++[(numS s).1],(numS s).2)
def memB (x:List BS) (s:PS):List BS×PS:=(x++[(wordS s).1],(wordS s).2)
def groupS (s:PS):GrD×PS:=let r:=wordS s
 let g:=takeS (isS r.2 kBeta||isS r.2 kGreek) r.2
 let f:=lpS (fun s=>kindS s 1) facB [] g.2
 let m:=lpS (fun s=>kindS s 0) memB [] (expS kColon f.2)
 (⟨r.1,if g.1==kGreek then 1 else 0,m.1,f.1⟩,expS kSemi m.2)
def vlB (x:List VlD) (s:PS):List VlD×PS:=let r:=wordS s
 (x++[⟨r.1,(numS r.2).1⟩],expS kSemi (numS r.2).2)
def phaseS (s:PS):PhD×PS:=let r:=wordS s
 let t:=inputS (expS kTop r.2)
 let q:=lpS (fun s=> !isS s kClose) vlB [] (expS kOpen t.2)
 (⟨r.1,t.1,q.1⟩,expS kClose q.2)
def stB (m:MdD) (s:PS):MdD×PS:=
 let r:=takeS (isS s kEvent||isS s kHouse||isS s kGate||isS s kPage||isS s kGroup||isS s kPhase) s
 if r.1==kEvent then({m with events:=m.events++[(eventS r.2).1]},(eventS r.2).2)
 else if r.1==kHouse then({m with houses:=m.houses++[(houseS r.2).1]},(houseS r.2).2)
 else if r.1==kGate then({m with gates:=m.gates++[(gateS r.2).1]},(gateS r.2).2)
 else if r.1==kPage then({m with pages:=m.pages++[(pageS r.2).1]},(pageS r.2).2)
 else if r.1==kGroup then({m with groups:=m.groups++[(groupS r.2).1]},(groupS r.2).2)
 else if r.1==kPhase then({m with phases:=m.phases++[(phaseS r.2).1]},(phaseS r.2).2)
 else(m,r.2)
def endS (s:PS):PS:=if s.e=0∧s.l≠[] then⟨s.l,2⟩ else s
def readS (s:PS):MdD×PS:=let r:=wordS (expS kModel s)
 let q:=lpS (fun s=> !isS s kTop) stB {md0 with name:=r.1} (expS kSemi r.2)
 let t:=inputS (expS kTop q.2)
 ({q.1 with top:=t.1},endS (expS kSemi t.2))
end Go.PN
namespace Go.PN
open Go.AI
variable {α β γ δ : Type}
def bnd (f:PS→α×PS) (k:α→PS→β×PS) (s:PS):β×PS:=k (f s).1 (f s).2
structure Rdr (f:PS→α×PS):Prop where
 suf:∀s,(f s).2.l<:+s.l
 stk:∀s,s.e≠0→(f s).2=s
theorem Rdr.bnd {f:PS→α×PS} {k:α→PS→β×PS} (hf:Rdr f) (hk:∀a,Rdr (k a)):Rdr (bnd f k):=
 ⟨fun s=>((hk _).suf _).trans (hf.suf s),fun s h=>by
  have h1:=hf.stk s h
  show(k (f s).1 (f s).2).2=s
  rw [h1]
  exact(hk _).stk s h⟩
theorem rdr_pure (a:α):Rdr fun s=>(a,s):=⟨fun _=>List.suffix_refl _,fun _ _=>rfl⟩
theorem rdr_take (m:PS→Bool):Rdr fun s=>takeS (m s) s:=by
 refine⟨fun s=> ?_,fun s h=> ?_⟩
 ·unfold takeS
  split
  ·split
   ·rename_i h;rw [h];exact List.suffix_refl _
   ·rename_i t l h
    rw [h]
    split
    ·exact List.suffix_cons t l
    ·exact List.suffix_refl _
  ·exact List.suffix_refl _
 ·unfold takeS
  rw [if_neg h]
theorem rdr_fail (c:PS→Int) (a:α):Rdr fun s=>(a,failS (c s) s):=by
 refine⟨fun s=> ?_,fun s h=> ?_⟩
 ·show(failS (c s) s).l<:+s.l
  unfold failS
  split<;>exact List.suffix_refl _
 ·show failS (c s) s=s
  unfold failS
  rw [if_neg h]
theorem rdr_ite {c:PS→Prop} [DecidablePred c] {f g:PS→α×PS} (hf:Rdr f) (hg:Rdr g):Rdr fun s=>if c s then f s else g s:=by
 refine⟨fun s=> ?_,fun s h=> ?_⟩
 ·show(if c s then f s else g s).2.l<:+s.l
  split
  ·exact hf.suf s
  ·exact hg.suf s
 ·show(if c s then f s else g s).2=s
  split
  ·exact hf.stk s h
  ·exact hg.stk s h
theorem rdr_loop {c:PS→Bool} {b:α→PS→α×PS} (hb:∀a,Rdr (b a)):∀(n:Nat) (a:α),Rdr (loopS c b n a):=by
 intro n
 induction n with
 |zero=>exact fun a=>rdr_pure a
 |succ n ih=>
  intro a
  refine⟨fun s=> ?_,fun s h=> ?_⟩
  ·unfold loopS
   split
   ·exact((ih _).suf _).trans ((hb a).suf s)
   ·exact List.suffix_refl _
  ·unfold loopS
   rw [if_neg (fun x=>h x.1)]
theorem rdr_lp {c:PS→Bool} {b:α→PS→α×PS} (hb:∀a,Rdr (b a)) (a:α):Rdr (lpS c b a):=
 ⟨fun s=>(rdr_loop hb _ a).suf s,fun s h=>(rdr_loop hb _ a).stk s h⟩
theorem rdr_word:Rdr wordS:=rdr_take _
theorem rdr_exp (w:BS):Rdr fun s=>((),expS w s):=⟨fun s=>(rdr_take fun s=>isS s w).suf s,fun s h=>(rdr_take fun s=>isS s w).stk s h⟩
theorem rdr_num:Rdr numS:=by
 have h:=rdr_take fun s=>kindS s 1
 refine⟨fun s=> ?_,fun s h0=> ?_⟩
 ·have h1:=h.suf s
  unfold numS
  dsimp only
  split
  ·split
   ·exact h1
   ·exact h1
  ·exact h1
 ·have h1:=h.stk s h0
  unfold numS
  dsimp only at h1⊢
  rw [h1,if_neg h0]
theorem rdr_whole:Rdr wholeS:=by
 refine⟨fun s=> ?_,fun s h0=> ?_⟩
 ·have h1:=rdr_num.suf s
  unfold wholeS
  dsimp only
  split
  ·split
   ·split
    ·exact h1
    ·exact h1
   ·exact h1
  ·exact h1
 ·have h1:=rdr_num.stk s h0
  unfold wholeS
  dsimp only
  rw [h1,if_neg h0]
theorem rdr_input:Rdr inputS:=rdr_ite (c:=fun s=>isS s kAt=true) (Rdr.bnd (rdr_exp kAt) fun _=>Rdr.bnd rdr_word fun t=>rdr_pure (64::t)) rdr_word
def TksOk (l:List TK):Prop:=∀t∈l,TkOk t
theorem TksOk.suf {l r:List TK} (h:TksOk l) (hs:r<:+l):TksOk r:=fun t ht=>h t (hs.subset ht)
def Agr (R:α→β→Prop) (f:PS→α×PS) (g:PS→β×PS):Prop:=
 ∀s,TksOk s.l→s.e=0→(f s).2.e=(g s).2.e∧((f s).2.e=0→(f s).2=(g s).2∧R (f s).1 (g s).1)
theorem Agr.bnd {R:α→β→Prop} {T:γ→δ→Prop} {f:PS→α×PS} {g:PS→β×PS} {k:α→PS→γ×PS} {k':β→PS→δ×PS} (h:Agr R f g) (hf:Rdr f) (hk:∀a b,R a b→Agr T (k a) (k' b)) (r:∀a,Rdr (k a)) (r':∀b,Rdr (k' b)):Agr T (PN.bnd f k) (PN.bnd g k'):=by
 intro s ok e0
 obtain⟨h1,h2⟩:=h s ok e0
 show((k (f s).1 (f s).2).2.e=(k' (g s).1 (g s).2).2.e)∧_
 by_cases e1:(f s).2.e=0
 ·obtain⟨h3,h4⟩:=h2 e1
  have:=hk _ _ h4 (f s).2 (ok.suf (hf.suf s)) e1
  unfold PN.bnd
  rw [←h3]
  exact this
 ·have e3:=(r (f s).1).stk _ e1
  have e4:=(r' (g s).1).stk _ (by rw [←h1];exact e1)
  rw [e3,e4]
  exact⟨h1,fun x=>absurd (show(k (f s).1 (f s).2).2.e=0 from x) (by rw [e3];exact e1)⟩
theorem Agr.pure {R:α→β→Prop} {a:α} {b:β} (h:R a b):Agr R (fun s=>(a,s)) (fun s=>(b,s)):=fun _ _ _=>⟨rfl,fun _=>⟨rfl,h⟩⟩
theorem Agr.loop {R:α→β→Prop} {T:γ→δ→Prop} {c c':PS→Bool} {b:α→PS→α×PS} {b':β→PS→β×PS} {k:α→PS→γ×PS} {k':β→PS→δ×PS}
  (rb:∀a,Rdr (b a)) (rk:∀a,Rdr (k a)) (rk':∀a,Rdr (k' a)) (hd:∀a s,s.e=0→c s=true→mS (b a s).2<mS s) (hd':∀a s,s.e=0→c' s=true→mS (b' a s).2<mS s)
  (h11:∀a a' s,R a a'→TksOk s.l→s.e=0→c s=true→c' s=true→(b a s).2.e=(b' a' s).2.e∧((b a s).2.e=0→(b a s).2=(b' a' s).2∧R (b a s).1 (b' a' s).1))
  (h10:∀(a:α) (a':β) s,TksOk s.l→s.e=0→c s=true→c' s=false→False)
  (h01:∀(a:α) (a':β) s,TksOk s.l→s.e=0→c s=false→c' s=true→(k a s).2.e≠0∧(b' a' s).2.e=(k a s).2.e)
  (h00:∀a a' s,R a a'→TksOk s.l→s.e=0→c s=false→c' s=false→(k a s).2.e=(k' a' s).2.e∧((k a s).2.e=0→(k a s).2=(k' a' s).2∧T (k a s).1 (k' a' s).1)):
  ∀a a',R a a'→Agr T (PN.bnd (lpS c b a) k) (PN.bnd (lpS c' b' a') k'):=by
 intro a a' hR s
 generalize hn:mS s=n
 induction n using Nat.strongRecOn generalizing a a' s with
 |_ n ih=>
  intro ok e0
  cases hc:c s with
  |true=>
   cases hc':c' s with
   |false=>exact(h10 a a' s ok e0 hc hc').elim
   |true=>
    obtain⟨h1,h2⟩:=h11 a a' s hR ok e0 hc hc'
    have l1:=hd a s e0 hc
    have l2:=hd' a' s e0 hc'
    have s1:PN.bnd (lpS c b a) k s=PN.bnd (lpS c b (b a s).1) k (b a s).2:=by unfold PN.bnd;rw [lpS_step hd e0 hc]
    have s2:PN.bnd (lpS c' b' a') k' s=PN.bnd (lpS c' b' (b' a' s).1) k' (b' a' s).2:=by unfold PN.bnd;rw [lpS_step hd' e0 hc']
    rw [s1,s2]
    by_cases e1:(b a s).2.e=0
    ·obtain⟨h3,h4⟩:=h2 e1
     rw [←h3]
     exact ih _ om _ _ h4 _ rfl (ok.suf ((rb a).suf s)) e1
    ·have q1:PN.bnd (lpS c b (b a s).1) k (b a s).2=k (b a s).1 (b a s).2:=by unfold PN.bnd;rw [lpS_end (fun x=>e1 x.1)]
     have q2:PN.bnd (lpS c' b' (b' a' s).1) k' (b' a' s).2=k' (b' a' s).1 (b' a' s).2:=by unfold PN.bnd;rw [lpS_end (fun x=>e1 (h1.trans x.1))]
     rw [q1,q2,(rk _).stk _ e1,(rk' _).stk _ (by rw [←h1];exact e1)]
     exact⟨h1,fun x=>absurd x e1⟩
  |false=>
   have q1:PN.bnd (lpS c b a) k s=k a s:=by unfold PN.bnd;rw [lpS_end (fun x=>by rw [hc] at x;exact absurd x.2 (by decide))]
   rw [q1]
   cases hc':c' s with
   |false=>
    have q2:PN.bnd (lpS c' b' a') k' s=k' a' s:=by unfold PN.bnd;rw [lpS_end (fun x=>by rw [hc'] at x;exact absurd x.2 (by decide))]
    rw [q2]
    exact h00 a a' s hR ok e0 hc hc'
   |true=>
    obtain⟨h1,h2⟩:=h01 a a' s ok e0 hc hc'
    have s2:PN.bnd (lpS c' b' a') k' s=k' (b' a' s).1 (b' a' s).2:=by
     unfold PN.bnd
     rw [lpS_step hd' e0 hc',lpS_end (fun x=>h1 (h2.symm.trans x.1))]
    rw [s2,(rk' _).stk _ (by rw [h2];exact h1)]
    exact⟨h2.symm,fun x=>absurd x h1⟩
def Con (f:PS→α×PS):Prop:=∀s,s.e=0→mS (f s).2<mS s
theorem con_take (m:PS→Bool):Con fun s=>takeS (m s) s:=by
 intro s h
 dsimp only
 unfold takeS mS
 rw [if_pos h,if_pos h]
 split
 ·simp
 ·rename_i t l hl
  rw [hl]
  split
  ·simp
  ·simp
theorem mS_suf {s r:PS} (h:s.e=0) (hs:r.l<:+s.l):mS r≤mS s:=by
 unfold mS
 rw [if_pos h]
 split
 ·have:=hs.length_le;omega
 ·omega
theorem rdr_mS {f:PS→α×PS} (hf:Rdr f) (s:PS):mS (f s).2≤mS s:=by
 by_cases h:s.e=0
 ·exact mS_suf h (hf.suf s)
 ·rw [hf.stk s h];exact Nat.le_refl _
theorem Con.bnd {f:PS→α×PS} {k:α→PS→β×PS} (hf:Con f) (hk:∀a,Rdr (k a)):Con (bnd f k):=fun s h=>Nat.lt_of_le_of_lt (rdr_mS (hk _) _) (hf s h)
theorem Con.ite {c:PS→Prop} [DecidablePred c] {f g:PS→α×PS} (hf:Con f) (hg:Con g):Con fun s=>if c s then f s else g s:=fun s h=>by
 show mS (if c s then f s else g s).2<mS s
 split
 ·exact hf s h
 ·exact hg s h
theorem con_word:Con wordS:=con_take _
theorem con_exp (w:BS):Con fun s=>((),expS w s):=fun s h=>con_take (fun s=>isS s w) s h
theorem con_num:Con numS:=by
 intro s h
 have h1:=con_take (fun s=>kindS s 1) s h
 dsimp only at h1
 unfold numS
 dsimp only
 split
 ·split
  ·exact h1
  ·rename_i h2
   unfold mS at h1⊢
   rw [if_neg h2]
   rw [if_pos h]
   omega
 ·exact h1
theorem con_input:Con inputS:=Con.ite (c:=fun s=>isS s kAt=true) (Con.bnd (con_exp kAt) fun _=>Rdr.bnd rdr_word fun t=>rdr_pure (64::t)) con_word
end Go.PN
namespace Go.PN
open Go.AI
variable {α β γ δ : Type}
theorem rdr_inB (x:List BS):Rdr (inB x):=Rdr.bnd rdr_input fun t=>rdr_pure (x++[t])
theorem con_inB (x:List BS):Con (inB x):=Con.bnd con_input fun t=>rdr_pure (x++[t])
def insS (s:PS):List BS×PS:=let q:=lpS (fun s=> !isS s kSemi) inB [] s
 (q.1,expS kSemi q.2)
theorem rdr_ins:Rdr insS:=Rdr.bnd (rdr_lp rdr_inB []) fun q=>Rdr.bnd (rdr_exp kSemi) fun _=>rdr_pure q
def kdS (s:PS):Option Int:=if kindS s 0 then gkind (hdT s) else none
def gkS (s:PS):Option Int×PS:=(kdS s,(takeS (kdS s).isSome s).2)
theorem take_nil {m:Bool} {s:PS} (e0:s.e=0) (h:s.l=[]):takeS m s=([],⟨[],20⟩):=by unfold takeS;rw [if_pos e0,h]
theorem take_cons {m:Bool} {s:PS} {t:TK} {l:List TK} (e0:s.e=0) (h:s.l=t::l):takeS m s=if m then(t.text,⟨l,0⟩) else([],⟨t::l,2⟩):=by unfold takeS;rw [if_pos e0,h]
theorem kind_nil {k:Nat} {s:PS} (h:s.l=[]):kindS s k=false:=by unfold kindS;rw [h];simp
theorem kind_cons {k:Nat} {s:PS} {t:TK} {l:List TK} (e0:s.e=0) (h:s.l=t::l):kindS s k=(t.kind==k):=by unfold kindS;rw [h,e0];simp
theorem rdr_gk:Rdr gkS:=by
 have h:=rdr_take fun s=>(kdS s).isSome
 exact⟨fun s=>h.suf s,fun s h0=>h.stk s h0⟩
def gtK (nm:BS) (k:Option Int):PS→GtD×PS:=PN.bnd (fun s=>if k=some 2 then wholeS s else(0,s)) fun v=>PN.bnd (fun s=>if k=some 7 then numS s else(rd0,s)) fun d=>PN.bnd insS fun q s=>(⟨nm,k.getD 0,v,q,d⟩,s)
theorem rdr_gtK (nm:BS) (k:Option Int):Rdr (gtK nm k):=Rdr.bnd (rdr_ite rdr_whole (rdr_pure 0)) fun _=>Rdr.bnd (rdr_ite rdr_num (rdr_pure rd0)) fun _=>Rdr.bnd rdr_ins fun _=>rdr_pure _
theorem gateS_eq:gateS=PN.bnd wordS fun nm=>PN.bnd gkS fun k=>gtK nm k:=rfl
theorem rdr_gate:Rdr gateS:=by rw [gateS_eq];exact Rdr.bnd rdr_word fun nm=>Rdr.bnd rdr_gk fun k=>rdr_gtK nm k
end Go.PN
namespace Go.PN
open Go.AI
variable {α β γ δ : Type}
theorem is_nil {w:BS} {s:PS} (h:s.l=[]):isS s w=false:=by unfold isS;rw [h];simp
theorem is_cons {w:BS} {s:PS} {t:TK} {l:List TK} (e0:s.e=0) (h:s.l=t::l):isS s w=(t.kind !=1&&t.text==w):=by unfold isS;rw [h,e0];simp
theorem hd_cons {s:PS} {t:TK} {l:List TK} (h:s.l=t::l):hdT s=t.text:=by unfold hdT;rw [h]
structure EvR (x:List BS×EvD) (y:List Bool×EvD):Prop where
 ev:x.2=y.2
 len:y.1.length=4
 p:x.1.contains kP=y.1.getD 0 false
 f:x.1.contains kFail=y.1.getD 1 false
 r:x.1.contains kRepair=y.1.getD 2 false
 c:x.1.contains kCost=y.1.getD 3 false
theorem set4 {l:List Bool} (h:l.length=4) (k j:Nat) (hk:k<4):(l.set k true).getD j false=if k=j then true else l.getD j false:=by
 rw [List.getD_eq_getElem?_getD,List.getElem?_set]
 by_cases e:k=j
 ·subst e;rw [if_pos rfl,if_pos om,if_pos rfl];rfl
 ·rw [if_neg e,if_neg e,List.getD_eq_getElem?_getD]
theorem EvR.cons {x:List BS×EvD} {y:List Bool×EvD} (h:EvR x y) (k:Nat) (w:BS) (hw:(k=0∧w=kP)∨(k=1∧w=kFail)∨(k=2∧w=kRepair)∨(k=3∧w=kCost)) {u v:EvD} (e:u=v):EvR (w::x.1,u) (y.1.set k true,v):=by
 have hp:=h.p
 have hf:=h.f
 have hr:=h.r
 have hc:=h.c
 refine⟨e,by rw [List.length_set];exact h.len,?_,?_,?_,?_⟩
 all_goals
  dsimp only
  rw [List.contains_cons,set4 h.len k _ om]
  rcases hw with ⟨rfl,rfl⟩|⟨rfl,rfl⟩|⟨rfl,rfl⟩|⟨rfl,rfl⟩
  all_goals first|(rw [hp];rfl)|(rw [hf];rfl)|(rw [hr];rfl)|(rw [hc];rfl)|rfl
theorem rdr_evB (x:List BS×EvD):Rdr (evB x):=by
 refine⟨fun s=> ?_,fun s h=> ?_⟩
 ·have ht:=(rdr_take fun s=>isS s kP||isS s kFail||isS s kRepair||isS s kCost).suf s
  unfold evB
  dsimp only at ht⊢
  split
  ·exact(rdr_fail (fun _=>6) x).suf s
  ·repeat' split
   all_goals first|exact(rdr_num.suf _).trans ht|exact(rdr_whole.suf _).trans ht|exact ht
 ·have ht:=(rdr_take fun s=>isS s kP||isS s kFail||isS s kRepair||isS s kCost).stk s h
  have hv:∀m,takeS m s=([],s):=fun m=>by unfold takeS;rw [if_neg h]
  have hz:∀w,isS s w=false:=fun w=>by unfold isS;simp [h]
  unfold evB
  dsimp only
  rw [hz,hz,hz,hz,hv]
  rfl
theorem con_evB (x:List BS×EvD):Con (evB x):=by
 intro s e0
 have ht:=con_take (fun s=>isS s kP||isS s kFail||isS s kRepair||isS s kCost) s e0
 dsimp only at ht
 unfold evB
 dsimp only
 split
 ·show mS (failS 6 s)<mS s
  unfold failS mS
  rw [if_pos e0,if_pos e0];simp
 ·repeat' split
  all_goals first|exact Nat.lt_of_le_of_lt (rdr_mS rdr_num _) ht|exact Nat.lt_of_le_of_lt (rdr_mS rdr_whole _) ht|exact ht
def evK (q:List BS×EvD):PS→EvD×PS:=PN.bnd (fun s=>((),expS kSemi s)) fun _ s=>(q.2,s)
theorem eventS_eq:eventS=PN.bnd wordS fun nm=>PN.bnd (lpS (fun s=> !isS s kSemi) evB ([],{ev0 with name:=nm})) evK:=rfl
theorem rdr_evK (q:List BS×EvD):Rdr (evK q):=Rdr.bnd (rdr_exp kSemi) fun _=>rdr_pure _
theorem rdr_event:Rdr eventS:=by rw [eventS_eq];exact Rdr.bnd rdr_word fun nm=>Rdr.bnd (rdr_lp rdr_evB _) rdr_evK
def hsT (s:PS):Bool×PS:=((takeS (isS s kOn||isS s kOff) s).1==kOn,(takeS (isS s kOn||isS s kOff) s).2)
theorem rdr_hsT:Rdr hsT:=by
 have h:=rdr_take fun s=>isS s kOn||isS s kOff
 exact⟨fun s=>h.suf s,fun s h0=>h.stk s h0⟩
theorem houseS_eq:houseS=PN.bnd wordS fun nm=>PN.bnd hsT fun b=>PN.bnd (fun s=>((),expS kSemi s)) fun _ s=>(⟨nm,b⟩,s):=rfl
theorem rdr_house:Rdr houseS:=by rw [houseS_eq];exact Rdr.bnd rdr_word fun nm=>Rdr.bnd rdr_hsT fun b=>Rdr.bnd (rdr_exp _) fun _=>rdr_pure _
end Go.PN
namespace Go.PN
open Go.AI
variable {α β γ δ : Type}
theorem rdr_pgB (x:List GtD):Rdr (pgB x):=Rdr.bnd (rdr_exp kGate) fun _=>Rdr.bnd rdr_gate fun g=>rdr_pure (x++[g])
theorem con_pgB (x:List GtD):Con (pgB x):=Con.bnd (con_exp kGate) fun _=>Rdr.bnd rdr_gate fun g=>rdr_pure (x++[g])
def pgK (nm t:BS) (q:List GtD):PS→PgD×PS:=PN.bnd (fun s=>((),expS kClose s)) fun _ s=>(⟨nm,t,q⟩,s)
theorem rdr_pgK (nm t:BS) (q:List GtD):Rdr (pgK nm t q):=Rdr.bnd (rdr_exp _) fun _=>rdr_pure _
def topK (k:BS→PS→α×PS):PS→α×PS:=PN.bnd (fun s=>((),expS kTop s)) fun _=>PN.bnd inputS fun t=>PN.bnd (fun s=>((),expS kOpen s)) fun _=>k t
theorem rdr_topK {k:BS→PS→α×PS} (h:∀t,Rdr (k t)):Rdr (topK k):=Rdr.bnd (rdr_exp _) fun _=>Rdr.bnd rdr_input fun t=>Rdr.bnd (rdr_exp _) fun _=>h t
theorem pageS_eq:pageS=PN.bnd wordS fun nm=>topK fun t=>PN.bnd (lpS (fun s=> !isS s kClose) pgB []) (pgK nm t):=rfl
theorem rdr_page:Rdr pageS:=by rw [pageS_eq];exact Rdr.bnd rdr_word fun nm=>rdr_topK fun t=>Rdr.bnd (rdr_lp rdr_pgB _) (rdr_pgK nm t)
theorem vlB_eq (x:List VlD):vlB x=PN.bnd wordS fun w=>PN.bnd numS fun q=>PN.bnd (fun s=>((),expS kSemi s)) fun _ s=>(x++[⟨w,q⟩],s):=rfl
theorem rdr_vlB (x:List VlD):Rdr (vlB x):=by rw [vlB_eq];exact Rdr.bnd rdr_word fun w=>Rdr.bnd rdr_num fun q=>Rdr.bnd (rdr_exp kSemi) fun _=>rdr_pure (x++[⟨w,q⟩])
theorem con_vlB (x:List VlD):Con (vlB x):=by rw [vlB_eq];exact Con.bnd con_word fun w=>Rdr.bnd rdr_num fun q=>Rdr.bnd (rdr_exp kSemi) fun _=>rdr_pure (x++[⟨w,q⟩])
def phK (nm t:BS) (q:List VlD):PS→PhD×PS:=PN.bnd (fun s=>((),expS kClose s)) fun _ s=>(⟨nm,t,q⟩,s)
theorem rdr_phK (nm t:BS) (q:List VlD):Rdr (phK nm t q):=Rdr.bnd (rdr_exp _) fun _=>rdr_pure _
theorem phaseS_eq:phaseS=PN.bnd wordS fun nm=>topK fun t=>PN.bnd (lpS (fun s=> !isS s kClose) vlB []) (phK nm t):=rfl
theorem rdr_phase:Rdr phaseS:=by rw [phaseS_eq];exact Rdr.bnd rdr_word fun nm=>rdr_topK fun t=>Rdr.bnd (rdr_lp rdr_vlB _) (rdr_phK nm t)
end Go.PN
namespace Go.PN
open Go.AI
variable {α β γ δ : Type}
def grT (s:PS):Int×PS:=(if(takeS (isS s kBeta||isS s kGreek) s).1==kGreek then 1 else 0,(takeS (isS s kBeta||isS s kGreek) s).2)
theorem rdr_grT:Rdr grT:=by
 have h:=rdr_take fun s=>isS s kBeta||isS s kGreek
 exact⟨fun s=>h.suf s,fun s h0=>h.stk s h0⟩
theorem rdr_facB (x:List RD):Rdr (facB x):=Rdr.bnd rdr_num fun q=>rdr_pure (x++[q])
theorem con_facB (x:List RD):Con (facB x):=Con.bnd con_num fun q=>rdr_pure (x++[q])
theorem rdr_memB (x:List BS):Rdr (memB x):=Rdr.bnd rdr_word fun q=>rdr_pure (x++[q])
theorem con_memB (x:List BS):Con (memB x):=Con.bnd con_word fun q=>rdr_pure (x++[q])
def grM (nm:BS) (g:Int) (f:List RD):PS→GrD×PS:=PN.bnd (lpS (fun s=>kindS s 0) memB []) fun m=>PN.bnd (fun s=>((),expS kSemi s)) fun _ s=>(⟨nm,g,m,f⟩,s)
theorem rdr_grM (nm:BS) (g:Int) (f:List RD):Rdr (grM nm g f):=Rdr.bnd (rdr_lp rdr_memB _) fun _=>Rdr.bnd (rdr_exp _) fun _=>rdr_pure _
def grF (nm:BS) (g:Int):PS→GrD×PS:=PN.bnd (lpS (fun s=>kindS s 1) facB []) fun f=>PN.bnd (fun s=>((),expS kColon s)) fun _=>grM nm g f
theorem rdr_grF (nm:BS) (g:Int):Rdr (grF nm g):=Rdr.bnd (rdr_lp rdr_facB _) fun f=>Rdr.bnd (rdr_exp _) fun _=>rdr_grM nm g f
theorem groupS_eq:groupS=PN.bnd wordS fun nm=>PN.bnd grT fun g=>grF nm g:=rfl
theorem rdr_group:Rdr groupS:=by rw [groupS_eq];exact Rdr.bnd rdr_word fun nm=>Rdr.bnd rdr_grT fun g=>rdr_grF nm g
def stW (m:MdD) (w:BS):PS→MdD×PS:=
 if w==kEvent then PN.bnd eventS fun x s=>({m with events:=m.events++[x]},s)
 else if w==kHouse then PN.bnd houseS fun x s=>({m with houses:=m.houses++[x]},s)
 else if w==kGate then PN.bnd gateS fun x s=>({m with gates:=m.gates++[x]},s)
 else if w==kPage then PN.bnd pageS fun x s=>({m with pages:=m.pages++[x]},s)
 else if w==kGroup then PN.bnd groupS fun x s=>({m with groups:=m.groups++[x]},s)
 else if w==kPhase then PN.bnd phaseS fun x s=>({m with phases:=m.phases++[x]},s)
 else fun s=>(m,s)
def stM (s:PS):Bool:=isS s kEvent||isS s kHouse||isS s kGate||isS s kPage||isS s kGroup||isS s kPhase
theorem stB_eq (m:MdD) (s:PS):stB m s=PN.bnd (fun s=>takeS (stM s) s) (stW m) s:=by
 show stB m s=stW m (takeS (stM s) s).1 (takeS (stM s) s).2
 unfold stB stW stM
 dsimp only
 generalize takeS _ s=r
 repeat' split
 all_goals rfl
theorem rdr_stW (m:MdD) (w:BS):Rdr (stW m w):=by
 unfold stW
 repeat' split
 ·exact Rdr.bnd rdr_event fun _=>rdr_pure _
 ·exact Rdr.bnd rdr_house fun _=>rdr_pure _
 ·exact Rdr.bnd rdr_gate fun _=>rdr_pure _
 ·exact Rdr.bnd rdr_page fun _=>rdr_pure _
 ·exact Rdr.bnd rdr_group fun _=>rdr_pure _
 ·exact Rdr.bnd rdr_phase fun _=>rdr_pure _
 ·exact rdr_pure _
theorem rdr_stB (m:MdD):Rdr (stB m):=by
 rw [show stB m=PN.bnd (fun s=>takeS (stM s) s) (stW m) from funext (stB_eq m)]
 exact Rdr.bnd (rdr_take stM) (rdr_stW m)
theorem con_stB (m:MdD):Con (stB m):=by
 rw [show stB m=PN.bnd (fun s=>takeS (stM s) s) (stW m) from funext (stB_eq m)]
 exact Con.bnd (con_take stM) (rdr_stW m)
def rdK (m:MdD):PS→MdD×PS:=PN.bnd (fun s=>((),expS kTop s)) fun _=>PN.bnd inputS fun t=>PN.bnd (fun s=>((),expS kSemi s)) fun _ s=>({m with top:=t},endS s)
theorem readS_eq:readS=PN.bnd (fun s=>((),expS kModel s)) fun _=>PN.bnd wordS fun nm=>PN.bnd (fun s=>((),expS kSemi s)) fun _=>PN.bnd (lpS (fun s=> !isS s kTop) stB {md0 with name:=nm}) rdK:=rfl
end Go.PN
namespace Go.PN
open Go.AI
theorem splitT_len {l:BS} (B:Nat):∀(n i:Nat) (out:List TK),out.length+(l.length-i)≤B→(splitT l n i out).2.length≤B
 |0,_,_,h=>by unfold splitT;dsimp only;omega
 |n+1,i,out,h=>by
  unfold splitT
  by_cases hi:i<l.length
  ·rw [if_pos hi]
   cases hs:stepT l i with
   |err c=>exact Nat.zero_le _
   |skip e=>
    have:=stepT_skip hi hs
    exact splitT_len B n e out om
   |tok k e=>
    have:=stepT_tok hi hs
    exact splitT_len B n e _ (by rw [List.length_append,List.length_singleton];omega)
  ·rw [if_neg hi];dsimp only;omega
theorem splitT_txt {l:BS}:∀(n i:Nat) (out:List TK),(∀t∈out,t.text.length≤l.length)→∀t∈(splitT l n i out).2,t.text.length≤l.length
 |0,_,_,h=>h
 |n+1,i,out,h=>by
  unfold splitT
  by_cases hi:i<l.length
  ·rw [if_pos hi]
   cases hs:stepT l i with
   |err c=>exact fun _ h=>by cases h
   |skip e=>exact splitT_txt n e out h
   |tok k e=>
    have hh:=stepT_tok hi hs
    refine splitT_txt n e _ fun t ht=> ?_
    rcases List.mem_append.1 ht with e'|e'
    ·exact h t e'
    ·rw [List.mem_singleton.1 e']
     show(cutS l i e).length≤_
     rw [cutS_len hh.2];omega
  ·rw [if_neg hi];exact h
theorem splitS_len (l:BS):(splitS l).2.length≤65536:=by
 unfold splitS
 split
 ·exact Nat.zero_le _
 ·exact splitT_len 65536 _ _ _ (by simp;omega)
theorem splitS_txt (l:BS):∀t∈(splitS l).2,t.text.length≤65536:=by
 unfold splitS
 split
 ·exact fun _ h=>by cases h
 ·exact fun t ht=>Nat.le_trans (splitT_txt _ _ _ (fun _ h=>by cases h) t ht) om
end Go.PN
namespace Go.PN
open Go.AI
theorem idxB_le (b:UInt8) (s:BS):idxB b s≤s.length:=(List.takeWhile_sublist _).length_le
theorem ixB_val (b:UInt8):∀s:BS,Lib.indexByte s b=if idxB b s<s.length then(idxB b s:Int) else-1
 |[]=>rfl
 |x::s=>by
  have ih:=ixB_val b s
  have hle:=idxB_le b s
  unfold Lib.indexByte
  by_cases h:x=b
  ·subst h
   have:idxB x (x::s)=0:=by unfold idxB;rw [List.takeWhile_cons_of_neg (by simp)];rfl
   rw [this];simp
  ·have h1:(x==b)=false:=by simpa using h
   have h2:idxB b (x::s)=idxB b s+1:=by unfold idxB;rw [List.takeWhile_cons_of_pos (by simpa using h)];rfl
   rw [h1,h2,List.length_cons]
   simp only [Bool.false_eq_true,if_false]
   rw [ih]
   by_cases h3:idxB b s<s.length
   ·have:((idxB b s:Int)== -1)=false:=by simp
    rw [if_pos h3,if_pos (show idxB b s+1<s.length+1 from by omega),this];simp
   ·rw [if_neg h3,if_neg (show¬idxB b s+1<s.length+1 from by omega)];rfl
theorem idxB_at {b:UInt8}:∀{s:BS} {e:Nat},e<s.length→s.getD e 0=b→(∀j,j<e→s.getD j 0≠b)→idxB b s=e
 |x::s,0,_,h,_=>by
  have:x=b:=by simpa using h
  unfold idxB;rw [List.takeWhile_cons_of_neg (by simp [this])];rfl
 |x::s,e+1,hl,h,hn=>by
  have h0:x≠b:=by simpa using hn 0 om
  have h2:idxB b (x::s)=idxB b s+1:=by unfold idxB;rw [List.takeWhile_cons_of_pos (by simpa using h0)];rfl
  rw [h2,idxB_at (s:=s) (e:=e) (by simpa using hl) (by simpa using h) fun j hj=>by simpa using hn (j+1) om]
theorem idxB_no {b:UInt8}:∀{s:BS},(∀j,j<s.length→s.getD j 0≠b)→idxB b s=s.length
 |[],_=>rfl
 |x::s,hn=>by
  have h0:x≠b:=by simpa using hn 0 (by simp)
  have h2:idxB b (x::s)=idxB b s+1:=by unfold idxB;rw [List.takeWhile_cons_of_pos (by simpa using h0)];rfl
  rw [h2,idxB_no (s:=s) fun j hj=>by simpa using hn (j+1) (by simpa using hj)];rfl
theorem byte_ne {s:BS} {j:Nat} {b:UInt8} (h:bAt s j≠b.toNat):s.getD j 0≠b:=fun e=>h (by unfold bAt;rw [e])
theorem byte_eq {s:BS} {j:Nat} {b:UInt8} (h:bAt s j=b.toNat):s.getD j 0=b:=UInt8.toNat_inj.1 h
inductive NumF (s:BS):Prop where
 |all (h:∀i,i<s.length→isDig (bAt s i)=true)
 |two (e:Nat) (he:e+1<s.length) (hm:bAt s e=46∨bAt s e=47) (h1:∀i,i<e→isDig (bAt s i)=true) (h2:∀i,e<i→i<s.length→isDig (bAt s i)=true)
theorem spanE_dig {s:BS} {i:Nat}:∀j,i≤j→j<spanE isDig s i→isDig (bAt s j)=true:=fun j h1 h2=>spanE_in (p:=isDig) (spanE isDig s i-i) i (by have:=spanE_ge isDig s i;omega) j h1 (by have:=spanE_ge isDig s i;omega)
theorem num_form {s:BS} (h:isNum s=true):NumF s∧0<s.length:=by
 unfold isNum at h
 simp only [Bool.and_eq_true,decide_eq_true_eq,beq_iff_eq] at h
 obtain⟨⟨h0,_⟩,h2⟩:=h
 refine⟨?_,h0⟩
 unfold numE at h2
 split at h2
 ·rename_i h3
  refine .two (spanE isDig s 0) h3.1 h3.2.1 (fun i hi=>spanE_dig i (Nat.zero_le _) hi) fun i hi hl=>spanE_dig (i:=spanE isDig s 0+1) i (Nat.succ_le_of_lt hi) (by rw [h2];exact hl)
 ·exact .all fun i hi=>spanE_dig i (Nat.zero_le _) (by rw [h2];exact hi)
theorem cutS_take (s:BS) (e:Nat):cutS s 0 e=s.take e:=by unfold cutS;simp
theorem cutS_drop (s:BS) (e:Nat):cutS s e s.length=s.drop e:=by unfold cutS;exact List.take_of_length_le (by simp)
theorem bAt_take {s:BS} {e i:Nat} (h:i<e):bAt (s.take e) i=bAt s i:=by
 unfold bAt
 rw [List.getD_eq_getElem?_getD,List.getD_eq_getElem?_getD,List.getElem?_take,if_pos h]
theorem bAt_drop (s:BS) (e i:Nat):bAt (s.drop e) i=bAt s (e+i):=by
 unfold bAt
 rw [List.getD_eq_getElem?_getD,List.getD_eq_getElem?_getD,List.getElem?_drop]
theorem dig_take {s:BS} {e:Nat} (h1:∀i,i<e→isDig (bAt s i)=true):∀i,i<(s.take e).length→isDig (bAt (s.take e) i)=true:=fun i hi=>by
 have:i<e:=by rw [List.length_take] at hi;omega
 rw [bAt_take this];exact h1 i this
theorem dig_drop {s:BS} {e:Nat} (h2:∀i,e<i→i<s.length→isDig (bAt s i)=true):∀i,i<(s.drop (e+1)).length→isDig (bAt (s.drop (e+1)) i)=true:=fun i hi=>by
 rw [List.length_drop] at hi
 rw [bAt_drop];exact h2 _ om om
theorem ix_all {s:BS} (h:∀i,i<s.length→isDig (bAt s i)=true):idxB 47 s=s.length∧idxB 46 s=s.length:=by
 have hd:∀i,i<s.length→48≤bAt s i:=fun i hi=>by have:=h i hi;unfold isDig at this;simp at this;omega
 exact⟨idxB_no fun j hj=>byte_ne (by have:=hd j hj;show bAt s j≠47;omega),idxB_no fun j hj=>byte_ne (by have:=hd j hj;show bAt s j≠46;omega)⟩
theorem ix_slash {s:BS} {e:Nat} (he:e+1<s.length) (hm:bAt s e=47) (h1:∀i,i<e→isDig (bAt s i)=true):idxB 47 s=e:=by
 have hd:∀i,i<e→48≤bAt s i:=fun i hi=>by have:=h1 i hi;unfold isDig at this;simp at this;omega
 exact idxB_at om (byte_eq hm) fun j hj=>byte_ne (by have:=hd j hj;show bAt s j≠47;omega)
theorem ix_point {s:BS} {e:Nat} (he:e+1<s.length) (hm:bAt s e=46) (h1:∀i,i<e→isDig (bAt s i)=true) (h2:∀i,e<i→i<s.length→isDig (bAt s i)=true):idxB 47 s=s.length∧idxB 46 s=e:=by
 have hd:∀i,i<s.length→i≠e→48≤bAt s i:=fun i hi hn=>by
  have:isDig (bAt s i)=true:=by
   by_cases h:i<e
   ·exact h1 i h
   ·exact h2 i om hi
  unfold isDig at this;simp at this;omega
 refine⟨idxB_no fun j hj=>byte_ne ?_,idxB_at om (byte_eq hm) fun j hj=>byte_ne (by have:=hd j om om;show bAt s j≠46;omega)⟩
 show bAt s j≠47
 by_cases h:j=e
 ·rw [h,hm];decide
 ·have:=hd j hj h;omega
end Go.PN
namespace Go.PN
open Go.AI
theorem span_eq {p:Nat→Bool} {l:BS}:∀(n i:Nat),(∀j,i≤j→j<i+n→p (bAt l j)=true)→i+n≤l.length→(i+n<l.length→p (bAt l (i+n))=false)→spanE p l i=i+n
 |0,i,_,h1,h2=>by
  by_cases h:i<l.length
  ·exact spanE_no h (by simpa using h2 om)
  ·exact spanE_out om
 |n+1,i,h,h1,h2=>by
  rw [spanE_yes om (h i (Nat.le_refl _) om),span_eq n (i+1) (fun j a b=>h j om om) om (fun z=>by rw [show i+1+n=i+(n+1) from by omega];exact h2 om)]
  omega
inductive LexOk (t:TK):Prop where
 |word (k:t.kind=0) (h0:0<t.text.length) (h1:t.text.length≤24) (h2:isLet (bAt t.text 0)=true) (h3:∀j,j<t.text.length→isIns (bAt t.text j)=true)
 |num (k:t.kind=1) (h0:0<t.text.length) (hd:isDig (bAt t.text 0)=true) (h1:NumF t.text)
 |sgn (k:t.kind=2) (h0:t.text.length=1) (h1:isSgn (bAt t.text 0)=true)
theorem let_cls {n:Nat} (h:isLet n=true):isBlk n=false∧n≠35∧isIns n=true:=by
 unfold isLet at h
 simp only [Bool.or_eq_true,Bool.and_eq_true,decide_eq_true_eq] at h
 refine⟨?_,by omega,?_⟩
 ·unfold isBlk
  simp only [Bool.or_eq_false_iff,beq_eq_false_iff_ne]
  omega
 ·unfold isIns isLet
  simp only [Bool.or_eq_true,Bool.and_eq_true,decide_eq_true_eq]
  omega
theorem dig_cls {n:Nat} (h:isDig n=true):isBlk n=false∧n≠35∧isLet n=false∧isIns n=true:=by
 unfold isDig at h
 simp only [Bool.and_eq_true,decide_eq_true_eq] at h
 refine⟨?_,by omega,?_,?_⟩
 ·unfold isBlk
  simp only [Bool.or_eq_false_iff,beq_eq_false_iff_ne]
  omega
 ·unfold isLet
  simp only [Bool.or_eq_false_iff,Bool.and_eq_false_iff,decide_eq_false_iff_not]
  omega
 ·unfold isIns isDig
  simp only [Bool.or_eq_true,Bool.and_eq_true,decide_eq_true_eq]
  omega
theorem sgn_cls {n:Nat} (h:isSgn n=true):isBlk n=false∧n≠35∧isLet n=false∧isDig n=false∧n≠10:=by
 unfold isSgn at h
 simp only [Bool.or_eq_true,beq_iff_eq] at h
 rcases h with h|h|h|h|h<;>subst h<;>decide
def endOk (l:BS) (i:Nat):Prop:=i<l.length→isIns (bAt l i)=false∧bAt l i≠47
theorem relex {t:TK} (ok:LexOk t) {l:BS} {i:Nat} (hl:i+t.text.length≤l.length) (hm:∀j,j<t.text.length→bAt l (i+j)=bAt t.text j) (he:endOk l (i+t.text.length)):stepT l i=.tok t.kind (i+t.text.length):=by
 cases ok with
 |word k h0 h1 h2 h3=>
  have e0:bAt l i=bAt t.text 0:=hm 0 h0
  obtain⟨c1,c2,_⟩:=let_cls h2
  have hs:spanE isIns l i=i+t.text.length:=span_eq _ _ (fun j a b=>by have:=hm (j-i) om;rw [show i+(j-i)=j from by omega] at this;rw [this];exact h3 _ om) hl fun z=>(he z).1
  unfold stepT
  rw [e0,c1,if_neg (by simp),if_neg c2,if_pos h2,hs,if_neg om,k]
 |num k h0 hd0 h1=>
  have e0:bAt l i=bAt t.text 0:=hm 0 h0
  obtain⟨c1,c2,c3,_⟩:=dig_cls hd0
  have hB:∀j,i≤j→j<i+t.text.length→bAt l j=bAt t.text (j-i):=fun j a b=>by have:=hm (j-i) om;rwa [show i+(j-i)=j from by omega] at this
  have hn:numE l i=i+t.text.length:=by
   have hE:i+t.text.length<l.length→isDig (bAt l (i+t.text.length))=false:=fun z=>by
    have:=(he z).1
    cases hd:isDig (bAt l (i+t.text.length)) with
    |false=>rfl
    |true=>rw [(dig_cls hd).2.2.2] at this;cases this
   cases h1 with
   |all h=>
    have hs:spanE isDig l i=i+t.text.length:=span_eq _ _ (fun j a b=>by rw [hB j a b];exact h _ om) hl hE
    unfold numE
    rw [hs,if_neg]
    rintro ⟨q1,q2,_⟩
    obtain⟨z1,z2⟩:=he om
    rcases q2 with q2|q2
    ·rw [q2] at z1;revert z1;decide
    ·exact z2 q2
   |two e he' hm' h2 h3=>
    have hx:isDig (bAt l (i+e))=false:=by rw [hB _ om om,show i+e-i=e from by omega];rcases hm' with q|q<;>rw [q]<;>decide
    have hs:spanE isDig l i=i+e:=span_eq _ _ (fun j a b=>by rw [hB j a om];exact h2 _ om) om fun _=>hx
    have hs2:spanE isDig l (i+e+1)=i+e+1+(t.text.length-(e+1)):=span_eq _ _ (fun j a b=>by rw [hB j om om];exact h3 _ om om) om fun z=>by rw [show i+e+1+(t.text.length-(e+1))=i+t.text.length from by omega] at z⊢;exact hE z
    unfold numE
    rw [hs,if_pos,hs2]
    ·omega
    ·refine⟨by omega,?_,?_⟩
     ·rw [hB _ om om,show i+e-i=e from by omega];exact hm'
     ·rw [hB _ om om];exact h3 _ om om
  unfold stepT
  rw [e0,c1,if_neg (by simp),if_neg c2,c3,if_neg (by simp),if_pos hd0,hn,if_neg (fun z=>by
   have:=he z.1
   rcases z.2 with q|q
   ·rw [this.1] at q;cases q
   ·exact this.2 q),k]
 |sgn k h0 h1=>
  have e0:bAt l i=bAt t.text 0:=hm 0 om
  obtain⟨c1,c2,c3,c4,_⟩:=sgn_cls h1
  unfold stepT
  rw [e0,c1,if_neg (by simp),if_neg c2,c3,if_neg (by simp),c4,if_neg (by simp),if_pos h1,h0,k]
end Go.PN
namespace Go.PN
open Go.AI
def endB (l:BS):Prop:=l=[]∨isIns (bAt l 0)=false∧bAt l 0≠47
inductive Lx:BS→List TK→Prop where
 |nil:Lx [] []
 |blank (b:UInt8) (l:BS) (ts:List TK):isBlk b.toNat=true→Lx l ts→Lx (b::l) ts
 |note (c l:BS) (ts:List TK):(∀x∈c,x.toNat≠10)→Lx l ts→Lx (35::(c++10::l)) ts
 |tok (t:TK) (l:BS) (ts:List TK):LexOk t→endB l→Lx l ts→Lx (t.text++l) (t::ts)
theorem bAt_app {a l:BS} (i:Nat) (h:a.length=i) (j:Nat):bAt (a++l) (i+j)=bAt l j:=by
 subst h
 unfold bAt
 rw [List.getD_eq_getElem?_getD,List.getD_eq_getElem?_getD,List.getElem?_append_right om,Nat.add_sub_cancel_left]
theorem bAt_app0 {a l:BS}:bAt (a++l) a.length=bAt l 0:=by
 have:=bAt_app (a:=a) (l:=l) a.length rfl 0
 simpa using this
theorem bAt_left {a l:BS} {j:Nat} (h:j<a.length):bAt (a++l) j=bAt a j:=by
 unfold bAt
 rw [List.getD_eq_getElem?_getD,List.getD_eq_getElem?_getD,List.getElem?_append_left h]
theorem LexOk.pos {t:TK} (h:LexOk t):0<t.text.length:=by
 cases h with
 |word _ h0=>exact h0
 |num _ h0=>exact h0
 |sgn _ h0=>omega
theorem splitT_lx {m:BS} {ts:List TK} (h:Lx m ts):∀(pre:BS) (n:Nat) (out:List TK),m.length≤n→splitT (pre++m) n pre.length out=(0,out++ts):=by
 induction h with
 |nil=>
  intro pre n out _
  cases n with
  |zero=>unfold splitT;rw [List.append_nil]
  |succ n=>unfold splitT;rw [if_neg (by simp),List.append_nil]
 |blank b l ts hb _ ih=>
  intro pre n out hn
  rw [List.length_cons] at hn
  obtain⟨n,rfl⟩:∃k,n=k+1:=⟨n-1,by omega⟩
  have hs:stepT (pre++b::l) pre.length=.skip (pre.length+1):=by
   unfold stepT
   rw [bAt_app0,show bAt (b::l) 0=b.toNat from rfl,if_pos hb]
  unfold splitT
  rw [if_pos (by simp),hs]
  have:=ih (pre++[b]) n out om
  rw [List.append_assoc,List.length_append] at this
  exact this
 |note c l ts hc _ ih=>
  intro pre n out hn
  rw [List.length_cons,List.length_append,List.length_cons] at hn
  obtain⟨n,rfl⟩:∃k,n=k+2:=⟨n-2,by omega⟩
  have hsp:spanE (fun b=>b !=10) (pre++35::(c++10::l)) pre.length=pre.length+(c.length+1):=by
   refine span_eq _ _ (fun j a b=> ?_) (by simp) fun _=> ?_
   ·have e:=bAt_app (a:=pre) (l:=35::(c++10::l)) pre.length rfl (j-pre.length)
    rw [show pre.length+(j-pre.length)=j from by omega] at e
    rw [e]
    by_cases h0:j=pre.length
    ·rw [show j-pre.length=0 from by omega];rfl
    ·obtain⟨k,hk⟩:∃k,j-pre.length=k+1:=⟨j-pre.length-1,by omega⟩
     rw [hk]
     have e2:bAt (35::(c++10::l)) (k+1)=bAt (c++10::l) k:=rfl
     have hk2:k<c.length:=by omega
     rw [e2,bAt_left hk2,bAt_get hk2]
     simpa using hc _ (List.getElem_mem hk2)
   ·rw [bAt_app (a:=pre) pre.length rfl (c.length+1)]
    have e2:bAt (35::(c++10::l)) (c.length+1)=bAt (c++10::l) c.length:=rfl
    rw [e2,bAt_app0]
    rfl
  have hs:stepT (pre++35::(c++10::l)) pre.length=.skip (pre.length+(c.length+1)):=by
   unfold stepT
   rw [bAt_app0,show bAt (35::(c++10::l)) 0=35 from rfl,if_neg (by decide),if_pos rfl,hsp]
  have e3:pre++35::(c++10::l)=(pre++35::c)++10::l:=by simp
  have e4:(pre++35::c).length=pre.length+(c.length+1):=by simp
  have hs2:stepT (pre++35::(c++10::l)) (pre.length+(c.length+1))=.skip (pre.length+(c.length+1)+1):=by
   unfold stepT
   rw [e3,←e4,bAt_app0,if_pos (show isBlk (bAt (10::l) 0)=true from rfl)]
  have hlen:(pre++35::(c++10::l)).length=pre.length+(c.length+1)+1+l.length:=by simp;omega
  unfold splitT
  rw [if_pos om,hs]
  show splitT _ (n+1) _ out=_
  unfold splitT
  rw [if_pos om,hs2]
  have:=ih (pre++35::c++[10]) n out om
  rw [List.length_append,e4,List.append_assoc,List.singleton_append,←e3] at this
  exact this
 |tok t l ts hok he _ ih=>
  intro pre n out hn
  have hp:=hok.pos
  rw [List.length_append] at hn
  obtain⟨n,rfl⟩:∃k,n=k+1:=⟨n-1,by omega⟩
  have hs:stepT (pre++(t.text++l)) pre.length=.tok t.kind (pre.length+t.text.length):=by
   refine relex hok (by simp) (fun j hj=> ?_) fun hlt=> ?_
   ·rw [bAt_app (a:=pre) pre.length rfl j,bAt_left hj]
   ·rw [bAt_app (a:=pre) pre.length rfl,bAt_app0]
    rcases he with e|e
    ·subst e;simp at hlt
    ·exact e
  have hc:cutS (pre++(t.text++l)) pre.length (pre.length+t.text.length)=t.text:=by
   unfold cutS
   rw [List.drop_left,Nat.add_sub_cancel_left,List.take_left]
  unfold splitT
  rw [if_pos (by simp;omega),hs]
  dsimp only
  rw [hc]
  have:=ih (pre++t.text) n (out++[t]) om
  rw [List.append_assoc,List.length_append,List.append_assoc] at this
  exact this
theorem splitS_lx {m:BS} {ts:List TK} (h:Lx m ts) (hl:m.length≤65536):splitS m=(0,ts):=by
 unfold splitS
 rw [if_neg om]
 have:=splitT_lx h [] m.length [] (Nat.le_refl _)
 simpa using this
end Go.PN
namespace Go.AI
def fAsk {α:Type} [DecidableEq α] (a:α):List α→List MapEntry→Nat→Option (Nat×Value)
 |k::ks,e::es,i=>if a=k then some (i,e.val) else fAsk a ks es (i+1)
 |_,_,_=>none
structure KeyOk (P:Program) (kt:TypeId) {α:Type} [DecidableEq α] (K:α→Value):Prop where
 check:∀b a w,(Instr.checkKey b 10000 kt (K a)).run P w=.ok () w
 find:∀(a:α) (ks:List α) (es:List MapEntry) w,es.map (·.key)=ks.map K→(Instr.findKey kt (K a) es).run P w=.ok (fAsk a ks es 0) w
section
variable {P : Program}
theorem run_findAsking {α:Type} [DecidableEq α] {K:α→Value} {kt:TypeId} (heq:∀a b w,(Op.equal kt (K a) (K b)).run P w=.ok (decide (a=b)) w) (a:α):∀(ks:List α) (es:List MapEntry) (i:Nat) (w:World),es.map (·.key)=ks.map K→(Instr.findAsking kt (K a) es i).run P w=.ok (fAsk a ks es i) w
 |[],[],i,w,_=>by simp [Instr.findAsking,fAsk]
 |k::ks,e::es,i,w,h=>by
  simp only [List.map_cons,List.cons.injEq] at h
  simp only [Instr.findAsking,fAsk,Sem.run_bind,h.1,heq,Result.andThen_ok]
  by_cases hk:a=k
  ·simp [hk]
  ·simp only [hk,decide_false,Bool.false_eq_true,if_false]
   exact run_findAsking heq a ks es (i+1) w h.2
 |[],e::es,i,w,h=>by simp at h
 |k::ks,[],i,w,h=>by simp at h
def keyZ (ns:List Int):Value:=.agg (ns.map (Value.int .i64)).toArray
theorem run_checkFields {n:Nat} {ns:List Int} (w:World) (b:Bool):∀(fs:List Field) (k:Nat),(fs.zipIdx k).all (fun p=>p.1.name != "_" &&p.1.offset==p.2&&(tInt P p.1.type).isSome)=true→k+fs.length≤ns.length→
  (forIn fs PUnit.unit (fun f (_:PUnit)=>(do
   if f.name≠ "_" then
    let __do_lift←part f.type (ns.map (Value.int .i64)).toArray f.offset
    Instr.checkKey b (n+1) f.type __do_lift
   pure (ForInStep.yield PUnit.unit):Sem (ForInStep PUnit)))).run P w=.ok PUnit.unit w
 |[],k,_,_=>by simp
 |f::fs,k,hf,hk=>by
  simp only [List.zipIdx_cons,List.all_cons,Bool.and_eq_true,bne_iff_ne,ne_eq,beq_iff_eq] at hf
  obtain⟨⟨⟨hn,ho⟩,hi⟩,hr⟩:=hf
  simp only [List.length_cons] at hk
  have hka:k<ns.length:=by omega
  obtain⟨kk,hkk⟩:=Option.isSome_iff_exists.1 hi
  have hu:=tInt_spec hkk
  have hag:(isAgg f.type).run P w=.ok false w:=by simp [isAgg,run_underlying hu]
  have e1:(ns.map (Value.int .i64)).toArray[k]?=some (Value.int .i64 (ns[k])):=by simp [hka]
  have p1:(part f.type (ns.map (Value.int .i64)).toArray f.offset).run P w=.ok (.int .i64 (ns[k])) w:=by
   unfold part
   simp only [Sem.run_bind,hag,Result.andThen_ok,Bool.false_eq_true,if_false,ho,e1,Sem.run_pure]
  have p2:(Instr.checkKey b (n+1) f.type (.int .i64 (ns[k]))).run P w=.ok () w:=by
   simp [Instr.checkKey,run_underlying hu]
  have ih:=run_checkFields (n:=n) (ns:=ns) w b fs (k+1) (by simpa using hr) om
  rw [List.forIn_cons]
  simp only [hn,not_false_eq_true,if_true,Sem.run_bind,p1,p2,Result.andThen_ok,Sem.run_pure,ne_eq]
  exact ih
theorem keyZ_ok {kt n:Nat} (ht:tEqS P kt=some n):KeyOk P kt (fun ns:{l:List Int//l.length=n}=>keyZ ns.1):=by
 have hstr:P.underlying kt=some (.struct (P.fieldsOf kt))∧(P.fieldsOf kt).toList.zipIdx.all (fun p=>p.1.name != "_" &&p.1.offset==p.2&&(tInt P p.1.type).isSome)=true∧(P.fieldsOf kt).size=n:=by
  unfold tEqS at ht
  split at ht
  ·rename_i hc
   simp only [Bool.and_eq_true,Bool.not_eq_true'] at hc
   obtain⟨⟨⟨h1,h2⟩,h3⟩,h4⟩:=hc
   injection ht with ht
   exact⟨isStr_spec h4,h3,ht⟩
  ·cases ht
 obtain⟨hu,hf,hs⟩:=hstr
 have heq:∀(a b:{l:List Int//l.length=n}) (w:World),(Op.equal kt (keyZ a.1) (keyZ b.1)).run P w=.ok (decide (a=b)) w:=fun a b w=>by
  have:=(tEqS_run ht a.2 b.2 w).1
  unfold Op.equal Op.maxDepth keyZ
  rw [this,eqZ_eq]
  congr 1
  rw [Bool.eq_iff_iff];simp [Subtype.ext_iff]
 refine⟨fun b a w=> ?_,fun a ks es w h=> ?_⟩
 ·unfold keyZ
  rw [show(10000:Nat)=9999+1 from rfl,Instr.checkKey]
  simp only [Sem.run_bind,run_underlying hu,Result.andThen_ok]
  rw [←Array.forIn_toList]
  have:=run_checkFields (P:=P) (n:=9998) (ns:=a.1) w b (P.fieldsOf kt).toList 0 hf (by simp [hs,a.2])
  rw [this]
  rfl
 ·unfold Instr.findKey
  simp only [Sem.run_bind,run_underlying hu,Result.andThen_ok]
  cases es with
  |nil=>
   cases ks with
   |nil=>simp [Instr.findNow,fAsk]
   |cons k ks=>simp at h
  |cons e es=>
   have hn:Instr.findNow (.struct (P.fieldsOf kt)) (keyZ a.1) (e::es) 0=none:=by
    simp [Instr.findNow,Instr.sameNow]
   rw [hn]
   exact run_findAsking heq a ks (e::es) 0 w h
def MapI {α:Type} (K:α→Value) (kv:List (α×Value)) (o:Obj):Prop:=∃es c,o=.map es c∧es.toList.map (fun e=>(e.key,e.val))=kv.map (fun p=>(K p.1,p.2))
def kvGet {α:Type} [DecidableEq α] (a:α):List (α×Value)→Option Value
 |[]=>none
 |p::kv=>if a=p.1 then some p.2 else kvGet a kv
theorem fAsk_get {α:Type} [DecidableEq α] {K:α→Value} (a:α):∀(kv:List (α×Value)) (es:List MapEntry) (i:Nat),es.map (fun e=>(e.key,e.val))=kv.map (fun p=>(K p.1,p.2))→(fAsk a (kv.map (·.1)) es i).map (·.2)=kvGet a kv
 |[],[],i,_=>rfl
 |p::kv,e::es,i,h=>by
  simp only [List.map_cons,List.cons.injEq,Prod.mk.injEq] at h
  simp only [List.map_cons,fAsk,kvGet]
  split
  ·simp [h.1.2]
  ·exact fAsk_get a kv es (i+1) h.2
 |[],e::es,i,h=>by simp at h
 |p::kv,[],i,h=>by simp at h
def tMap (P:Program) (t:TypeId):Option (TypeId×TypeId):=match P.underlying t with
 |some (.map k e)=>some (k,e)
 |_=>none
theorem tMap_spec {t k e:TypeId} (h:tMap P t=some (k,e)):P.underlying t=some (.map k e):=by
 unfold tMap at h
 split at h
 ·rename_i hu;simp only [Option.some.injEq,Prod.mk.injEq] at h;rw [hu,h.1,h.2]
 ·cases h
def tZ1 (P:Program) (t:TypeId):Option Value:=match (P.info? t).bind (·.zero) with
 |some (.int k n)=>some (.int k n)
 |some (.bool b)=>some (.bool b)
 |_=>none
theorem tZ1_run {t:TypeId} {z:Value} (h:tZ1 P t=some z) (w:World):(zeroValue t).run P w=.ok z w:=by
 unfold tZ1 at h
 cases hi:P.info? t with
 |none=>simp [hi] at h
 |some i=>
  cases hz:i.zero with
  |none=>simp [hi,hz] at h
  |some v=>
   simp only [hi,hz,Option.bind_some] at h
   split at h
   ·rename_i he;injection he with he;injection h with h;subst h;simp [zeroValue,typeInfo,hi,hz,he]
   ·rename_i he;injection he with he;injection h with h;subst h;simp [zeroValue,typeInfo,hi,hz,he]
   ·cases h
theorem runGet {w:World} {r:Nat} {es:Array MapEntry} {c:Nat} (hb:w.heap[r]?=some (.map es c)):(getObj r).run P w=.ok (.map es c) w:=by simp [getObj,Sem.run,hb]
theorem runSet {w:World} {r:Nat} {es:Array MapEntry} {c:Nat} (o':Obj) (hb:w.heap[r]?=some (.map es c)):(setObj r o').run P w=.ok () {w with heap:=w.heap.setIfInBounds r o'}:=by simp [setObj,Sem.run,hb]
variable {E : Env} {K : List It} {σ σ' : Sl} {h : Heap} {all rest : List Oper} {o : Oper}
theorem aw_makeMap {α:Type} {Kf:α→Value} {t:TypeId} (hop:o.op=.makeMap t none) (hw:wantA all σ o=some true) (hd:dstOk E.N o.dst=true)
  (k:∀g,g∉h.keys→aw E (.ops all rest::K) (σ.setO o.dst (.c (.raw (.map (some g))))) ((g,.gen (MapI Kf []))::h)):aw E (.ops all (o::rest)::K) σ h:=by
 refine aw_new (r:=fun g=>.c (.raw (.map (some g)))) (ob:=.gen (MapI Kf [])) hw hd (fun a w s=> ?_) k
 refine⟨.map (some w.heap.size),w.alloc (.map #[] 0),?_,Fr.alloc _ _ _,by simp,⟨_,heap_alloc_new w _,_,_,rfl,rfl⟩,rfl⟩
 simp only [execOp,hop]
 rfl
theorem aw_lookup {α:Type} [DecidableEq α] {Kf:α→Value} {t kt et g:TypeId} {kv:List (α×Value)} {x ky:Operand} {ck:AV} {a:α} {z:Value} (hop:o.op=.lookup t x ky false) (hw:wantA all σ o=some true) (hd:dstOk E.N o.dst=true)
  (ht:tMap E.P t=some (kt,et)) (hK:KeyOk E.P kt Kf) (hz:tZ1 E.P et=some z) (hx:ev σ x=.c (.raw (.map (some g)))) (hg:h.get g=some (.gen (MapI Kf kv))) (hk:ev σ ky=ck) (hka:∀S w v,Rep S w ck v→v=Kf a)
  (k:aw E (.ops all rest::K) (σ.setO o.dst (.c (cstC ((kvGet a kv).getD z)))) h):aw E (.ops all (o::rest)::K) σ h:=by
 refine aw_step hw (fun ac w s=> ?_) k
 have h1:=ev_rep s x
 rw [hx] at h1
 have h1':ac.eval x=.map (some g):=h1
 have h2:=ev_rep s ky
 rw [hk] at h2
 have h2':=hka _ _ _ h2
 obtain⟨ob,hb,es,c,rfl,hes⟩:=s.heap g _ (Heap.get_mem hg)
 have hkeys:es.toList.map (·.key)=(kv.map (·.1)).map Kf:=by
  have:=congrArg (List.map Prod.fst) hes
  rw [List.map_map,List.map_map] at this
  rw [List.map_map]
  exact this
 have hfind:=hK.find a (kv.map (·.1)) es.toList w hkeys
 have hget:=fAsk_get (K:=Kf) a kv es.toList 0 hes
 refine⟨(kvGet a kv).getD z,w,.inl ?_,s.put hd (cstC_rep _ _ _)⟩
 have hlk:(Instr.lookup t (ac.eval x) (ac.eval ky) false).run E.P w=.ok ((kvGet a kv).getD z) w:=by
  rw [h1',h2']
  unfold Instr.lookup
  simp only [Sem.run_bind,run_underlying (tMap_spec ht),Result.andThen_ok,runGet hb,Sem.run_pure,hK.check,hfind]
  rw [←hget]
  cases hf:fAsk a (kv.map (·.1)) es.toList 0 with
  |none=>simp [tZ1_run hz]
  |some p=>obtain⟨i,v⟩:=p;simp
 simp only [execOp,hop,Sem.run_bind,hlk,Result.andThen_ok]
 rfl
theorem aw_mapNew {α:Type} [DecidableEq α] {Kf:α→Value} {t kt et g:TypeId} {kv:List (α×Value)} {x ky vl:Operand} {ck cv:AV} {a:α} {v:Value} (hop:o.op=.mapUpdate t x ky vl) (hdn:o.dst=none) (hw:wantA all σ o=some true)
  (ht:tMap E.P t=some (kt,et)) (hK:KeyOk E.P kt Kf) (hx:ev σ x=.c (.raw (.map (some g)))) (hg:h.get g=some (.gen (MapI Kf kv))) (hk:ev σ ky=ck) (hka:∀S w u,Rep S w ck u→u=Kf a) (hv:ev σ vl=cv) (hva:∀S w u,Rep S w cv u→u=v)
  (hnew:kvGet a kv=none) {h':Heap} (hh:h.set g (.gen (MapI Kf (kv++[(a,v)])))=h') (k:aw E (.ops all rest::K) σ h'):aw E (.ops all (o::rest)::K) σ h:=by
 subst hh
 refine aw_step hw (fun ac w s=> ?_) k
 have h1:=ev_rep s x
 rw [hx] at h1
 have h1':ac.eval x=.map (some g):=h1
 have h2:=ev_rep s ky
 rw [hk] at h2
 have h2':=hka _ _ _ h2
 have h3:=ev_rep s vl
 rw [hv] at h3
 have h3':=hva _ _ _ h3
 obtain⟨ob,hb,es,c,rfl,hes⟩:=s.heap g _ (Heap.get_mem hg)
 have hkeys:es.toList.map (·.key)=(kv.map (·.1)).map Kf:=by
  have:=congrArg (List.map Prod.fst) hes
  rw [List.map_map,List.map_map] at this
  rw [List.map_map]
  exact this
 have hfind:=hK.find a (kv.map (·.1)) es.toList w hkeys
 have hget:=fAsk_get (K:=Kf) a kv es.toList 0 hes
 have hnone:fAsk a (kv.map (·.1)) es.toList 0=none:=by
  cases hf:fAsk a (kv.map (·.1)) es.toList 0 with
  |none=>rfl
  |some p=>rw [hf,hnew] at hget;cases hget
 have hgl:g<w.heap.size:=(Array.getElem?_eq_some_iff.1 hb).1
 let w':World:={w with heap:=w.heap.setIfInBounds g (.map (es.push {key:=Kf a,val:=v,born:=c}) (c+1))}
 have hrun:(Instr.mapUpdate t (ac.eval x) (ac.eval ky) (ac.eval vl)).run E.P w=.ok () w':=by
  rw [h1',h2',h3']
  unfold Instr.mapUpdate
  simp only [Sem.run_bind,run_underlying (tMap_spec ht),Result.andThen_ok,runGet hb,hK.check,hfind,hnone,runSet _ hb]
  rfl
 refine⟨undef,w',.inr ⟨?_,rfl⟩,?_⟩
 ·simp only [execOp,hop,Sem.run_bind,hrun,Result.andThen_ok]
  rfl
 ·rw [hdn]
  have hfr:Fr (fun b=>b=g) w w':=by
   refine⟨rfl,rfl,rfl,by simp [w'],Nat.le_refl _,fun b _ hne=> ?_,fun g' m hh=> ?_⟩
   ·simp only [w'];rw [Array.getElem?_setIfInBounds_ne (fun e=>hne e.symm)]
   ·obtain⟨cs,ty,⟨fr,hc⟩,hs⟩:=hh
    refine⟨cs,ty,⟨fr,?_⟩,hs⟩
    have hne:g'≠g:=fun e=>by rw [e,hb] at hc;cases hc
    simp only [w']
    rw [Array.getElem?_setIfInBounds_ne (fun e=>hne e.symm)];exact hc
  refine s.setObj hg hfr ⟨_,by simp only [w'];rw [Array.getElem?_setIfInBounds_self_of_lt hgl],_,_,rfl,?_⟩
  simp only [Array.toList_push,List.map_append,List.map_cons,List.map_nil,hes]
end
end Go.AI
namespace Go.AI
section
variable {E : Env} {K : List It} {σ σ' : Sl} {h : Heap} {all rest : List Oper} {o : Oper}
def ptrs (gs:List Nat):List Value:=gs.map fun g=>.pointer (some ⟨g,0,none⟩)
def fnC (f:FuncId) (gs:List Nat):CV:=.raw (.func (.func f) #[] (ptrs gs).toArray)
theorem aw_makeFunc {f:FuncId} {cs:List Operand} {gs:List Nat} (hop:o.op=.makeFunc (.func f) #[] cs.toArray) (hw:wantA all σ o=some true) (hd:dstOk E.N o.dst=true) (hc:cs.map (ev σ)=gs.map fun g=>.c (.optr g 0))
  (k:aw E (.ops all rest::K) (σ.setO o.dst (.c (fnC f gs))) h):aw E (.ops all (o::rest)::K) σ h:=by
 refine aw_step hw (fun a w s=> ?_) k
 have hev:∀(cs:List Operand) (gs:List Nat),cs.map (ev σ)=gs.map (fun g=>AV.c (.optr g 0))→cs.map a.eval=ptrs gs:=by
  intro cs
  induction cs with
  |nil=>intro gs hg;cases gs with
   |nil=>rfl
   |cons g gs=>cases hg
  |cons x cs ih=>intro gs hg;cases gs with
   |nil=>cases hg
   |cons g gs=>
    simp only [List.map_cons,List.cons.injEq] at hg
    have h1:=ev_rep s x
    rw [hg.1] at h1
    have h1':a.eval x=.pointer (some ⟨g,0,none⟩):=h1
    simp only [List.map_cons,ptrs]
    rw [h1',ih gs hg.2]
    rfl
 refine⟨.func (.func f) #[] (ptrs gs).toArray,w,.inl ?_,s.put hd rfl⟩
 simp only [execOp,hop,Instr.makeFunc,List.map_toArray,hev cs gs hc]
 rfl
theorem RepT.ptrs {S:Bool→Nat→Prop} {w:World}:∀{A:List AV} {vs:List Value} (gs:List Nat),RepT S w A vs→RepT S w (A++gs.map fun g=>.c (.optr g 0)) (vs++AI.ptrs gs)
 |[],[],gs,_=>by
  induction gs with
  |nil=>trivial
  |cons g gs ih=>exact⟨rfl,ih⟩
 |_::_,_::_,gs,h=>⟨h.1,RepT.ptrs gs h.2⟩
 |[],_::_,_,h=>h.elim
 |_::_,[],_,h=>h.elim
theorem aw_callhv {f:FuncId} {x:Operand} {gs:List Nat} {xs:List Operand} {ts:Array TypeId} {hc hr:Heap} {args:List AV} {Q:AV→Heap→Prop} (hf:Fh E.P f hc (args++gs.map fun g=>.c (.optr g 0)) Q) (hop:o.op=.call {callee:=.value x,args:=xs.toArray,argTypes:=ts}) (hw:wantA all σ o=some true) (hd:dstOk E.N o.dst=true) (hx:ev σ x=.c (fnC f gs))
  (hp:h.Perm (hc++hr)) (le:LeA [] (xs.map (ev σ)) args) (k:∀r h',Q r h'→(∀g∈h'.keys,g∉hr.keys)→aw E (.ops all rest::K) (σ.setO o.dst r) (h'++hr)):aw E (.ops all (o::rest)::K) σ h:=fun a w s=>by
 show wpList _ _ _ _ _ _
 unfold wpList
 rw [if_pos (s.wanted hw)]
 refine .inl ?_
 unfold Oper.wp
 have hv:a.eval x=.func (.func f) #[] (ptrs gs).toArray:=by
  have:=ev_rep s x
  rw [hx] at this
  exact this
 have hrun:(execOp a.eval o).run E.P w=.ok (.enter f (xs.map a.eval++ptrs gs).toArray) w:=by
  simp only [execOp,hop,resolve,hv,Deferred.ofValue,invoke,Sem.run_bind]
  have:=hf.1.run (#[]++(Array.map a.eval xs.toArray)++(ptrs gs).toArray) w
  simp only [Sem.run_pure,Result.andThen_ok]
  rw [show((xs.map a.eval++ptrs gs).toArray)=(#[]++(Array.map a.eval xs.toArray)++(ptrs gs).toArray) from by simp]
  exact this
 rw [hrun]
 show Calls _ _ _ _ _
 refine(hf.use s hp (RepT.ptrs gs (LeA.rep0 s le))).mono ?_
 rintro e w' ⟨v,r,h',rfl,hq,hfr,s',hrep⟩
 exact k r h' hq hfr _ _ (s'.put hd hrep)
theorem aw_callqv {f:FuncId} {x:Operand} {xs:List Operand} {ts:Array TypeId} {args:List AV} {r:AV} (hf:Fa E.P f args r) (hop:o.op=.call {callee:=.value x,args:=xs.toArray,argTypes:=ts}) (hw:wantA all σ o=some true) (hd:dstOk E.N o.dst=true) (hx:ev σ x=.c (.raw (.func (.func f) #[] #[])))
  (le:LeA h (xs.map (ev σ)) args) (k:aw E (.ops all rest::K) (σ.setO o.dst r) h):aw E (.ops all (o::rest)::K) σ h:=fun a w s=>by
 show wpList _ _ _ _ _ _
 unfold wpList
 rw [if_pos (s.wanted hw)]
 refine .inl ?_
 unfold Oper.wp
 have hv:a.eval x=.func (.func f) #[] #[]:=by
  have:=ev_rep s x
  rw [hx] at this
  exact this
 have hrun:(execOp a.eval o).run E.P w=.ok (.enter f (xs.map a.eval).toArray) w:=by
  simp only [execOp,hop,resolve,hv,Deferred.ofValue,invoke,Sem.run_bind]
  have:=hf.1.run (#[]++(Array.map a.eval xs.toArray)++ #[]) w
  simp only [Sem.run_pure,Result.andThen_ok]
  rw [show((xs.map a.eval).toArray)=(#[]++(Array.map a.eval xs.toArray)++ #[]) from by simp]
  exact this
 rw [hrun]
 show Calls _ _ _ _ _
 refine(hf.use s le).mono ?_
 rintro e w' ⟨v,rfl,hr,hfr⟩
 exact k _ _ ((s.later hfr).put hd hr)
end
end Go.AI
namespace Go.AI
section
variable {E : Env} {K : List It} {σ σ' : Sl} {h : Heap} {all l rest : List Oper} {o o1 o2 : Oper}
theorem NewX.buildSlice {t e size bytes len:Nat} {xs:List Operand} {cells:List CV} (hop:o.op=.buildSlice t len (enumO 0 xs).toArray) (hw:wantA l σ o=some true) (hd:dstOk E.N o.dst=true) (ht:tElem E.P t=some (e,size,bytes))
  (hz:(tZero E.P e).isSome=true) (hl:xs.length=len) (hsm:len*size≤16777216) (hlm:len≤16777216) (hx:∀x∈xs,(ev σ x).flat=true∧(ev σ x).cells.all CV.solid=true∧(ev σ x).cells.length=size) (hc:(xs.map (ev σ)).flatMap AV.cells=cells) (hops:∀x∈xs,x∈o.op.operands):
  NewX E h l σ o (fun g=>.c (.osl g size 0 len)) (.cells e (len*size) (ofL cells)):=by
 subst hc
 refine NewX.of_run hw hd fun σ' ext a w he s=> ?_
 have hmap:xs.map (ev σ')=xs.map (ev σ):=List.map_congr_left fun x hx'=>he x (hops x hx')
 have hx2:∀x∈xs,(ev σ' x).flat=true∧(ev σ' x).cells.all CV.solid=true∧(ev σ' x).cells.length=size:=fun x hx'=>by rw [he x (hops x hx')];exact hx x hx'
 rw [←hmap]
 obtain⟨hu,inf,hi,hsz,_⟩:=tElem_spec ht
 obtain⟨z,hz'⟩:=Option.isSome_iff_exists.1 hz
 obtain⟨i',zv,hi',hzv,_⟩:=tZero_spec hz'
 rw [hi] at hi'
 injection hi' with hi'
 subst hi'
 obtain⟨hL,hcs⟩:=parts_rep s size xs hx2
 have hnk:w.heap.size∉(ext++h).keys:=fun hm=>Nat.lt_irrefl _ (s.klt hm)
 generalize hvs:xs.map a.eval=vs at hL hcs
 have hlv:vs.length=len:=by rw [←hvs];simpa using hl
 have hfl:(vs.flatMap fun v=>v.cells.toList).length=len*size:=by
  rw [←hlv]
  clear hL hvs hlv
  induction vs with
  |nil=>simp
  |cons v vs ih=>simp only [List.flatMap_cons,List.length_append,List.length_cons,ih (fun x hx=>hcs x (List.mem_cons_of_mem _ hx)),Nat.add_mul];have:=hcs v (by simp);simp [this];omega
 refine⟨.slice (some ⟨w.heap.size,0,none⟩) len len,w.alloc (.cells (vs.flatMap fun v=>v.cells.toList).toArray e),?_,Fr.alloc _ _ _,by simp,?_,?_⟩
 ·have hm:(Array.map (fun x:Nat×Operand=>(x.1,a.eval x.2)) (enumO 0 xs).toArray).toList=enumL 0 vs:=by
   rw [←hvs,←enum_map];simp
  have hfill:∀zc:Array Value,Instr.fill (fun i=>some (i*size,size)) ((Array.range (len*size)).map (fun x=>zc[x%zc.size]!)) (enumL 0 vs)=some (vs.flatMap fun v=>v.cells.toList).toArray:=fun zc=>by
   rw [fill_seq size vs 0 _ hcs (by simp [hlv])]
   rw [Nat.zero_mul,putL_full _ _ (by simp [hfl])]
  simp only [execOp,hop,Instr.buildSlice,Sem.run_bind,run_underlying hu,Result.andThen_ok,sizeOf,typeInfo,Sem.run_pure]
  simp only [run_program,hi,Result.andThen_ok,Sem.run_pure,hsz]
  rw [if_neg om]
  rw [hm]
  by_cases h0:len*size=0
  ·rw [if_pos h0]
   simp only [Sem.run_bind,Sem.run_pure,Result.andThen_ok,hfill]
   rfl
  ·rw [if_neg h0]
   simp only [Sem.run_bind,Sem.run_pure,Result.andThen_ok,zeroValue,typeInfo,run_program,hi,hzv,hfill]
   rfl
 ·have hr:=orep_new (C:=E.C) (w:=w) (ty:=e) (h':=((w.heap.size,AObj.cells e (len*size) (ofL ((xs.map (ev σ')).flatMap AV.cells)))::(ext++h))) (hL.keep (keeps_alloc hnk))
  have hcl:((xs.map (ev σ')).flatMap AV.cells).length=len*size:=by rw [←hL.length,hfl]
  rw [hcl] at hr
  exact hr
 ·exact⟨len,rfl,Nat.le_refl _,by unfold maxLen;omega,(vs.flatMap fun v=>v.cells.toList).toArray,e,⟨_,heap_alloc_new w _⟩,by simp [hfl]⟩
end
end Go.AI
namespace Go.AI
theorem eI {P:Prop} (k:P:=by(repeat' first|exact has0_nil|refine has0_cons ?_ ?_)<;>simp):P:=k
theorem Fh.mono {P:Program} {f:FuncId} {hc:Heap} {args:List AV} {Q Q':AV→Heap→Prop} (hf:Fh P f hc args Q) (h:∀r h',Q r h'→Q' r h'):Fh P f hc args Q':=
 ⟨hf.1,fun C vs h1 h2 h3 h4=>(hf.2 C vs h1 h2 h3 h4).mono (by
  rintro e w ⟨v,r,h',he,hq,rest⟩
  exact⟨v,r,h',he,h _ _ hq,rest⟩)⟩
def neA (a:Nat):List Nat→Prop
 |[]=>True
 |b::l=>((a=b)=False∧(b=a)=False)∧neA a l
def ndP:List Nat→Prop
 |[]=>True
 |a::l=>neA a l∧ndP l
theorem neA_of {a:Nat}:∀{l:List Nat},a∉l→neA a l
 |[],_=>trivial
 |b::l,h=>by
  rw [List.mem_cons,not_or] at h
  exact⟨⟨eq_false h.1,eq_false fun e=>h.1 e.symm⟩,neA_of h.2⟩
theorem ndP_of:∀{l:List Nat},l.Nodup→ndP l
 |[],_=>trivial
 |a::l,h=>by
  rw [List.nodup_cons] at h
  exact⟨neA_of h.1,ndP_of h.2⟩
section
variable {E : Env} {K : List It} {l : List Oper} {FP : Heap} {σ σ' : Sl} {h : Heap} {o : Oper} {i : Nat} {cs : List (Nat × Nat)}
theorem wc3 {i:Nat} {FP:Heap} {cs:List (Nat×Nat)} (ho:l[i]?=some o) (hd:dstOk E.N o.dst=true) (k:∀R:Option (Prop×Sl)→Prop,(∀q σ',CW E l K FP cs σ' h→(hq:q:=by(try simp only [inRange])<;>and_intros<;>first|exact True.intro|omega|trivial)→R (some (q,σ')))→R (runOp2 E.P true [] l o σ)):CW E l K FP ((i,3)::cs) σ h:=by
 have:=k (fun x=>x=runOp2 E.P true [] l o σ→CW E l K FP ((i,3)::cs) σ h) (fun q σ' ha hq e=>by
  unfold runOp2 at e
  split at e
  ·rename_i hw
   split at e
   ·rename_i q1 r hp
    injection e with e
    injection e with e1 e2
    subst e1 e2
    exact .fre ho (Flt.pure hw hp hq hd) ha
   ·cases e
  ·rename_i hw
   injection e with e
   injection e with e1 e2
   subst e1 e2
   exact .fre ho (Flt.skip hw hd) ha
  ·cases e)
 exact this rfl
theorem cw_perm {h':Heap} (hp:h.Perm h') (k:CW E l K FP cs σ h'):CW E l K FP cs σ h:=by
 induction cs generalizing σ h h' with
 |nil=>
  cases k with
  |nil k=>exact .nil (aw_perm hp k)
 |cons c cs ih=>
  cases k with
  |flt ho hf k=>exact .flt ho hf (ih hp k)
  |fre ho hf k=>exact .fre ho hf (ih hp k)
  |pin ho hmk hpn hfp k=>exact .pin ho hmk (fun σ' K hs=>aw_perm hp (hpn σ' K hs)) hfp k
theorem NewX.makeMap {α:Type} {Kf:α→Value} {t:TypeId} (hop:o.op=.makeMap t none) (hw:wantA l σ o=some true) (hd:dstOk E.N o.dst=true):NewX E h l σ o (fun g=>.c (.raw (.map (some g)))) (.gen (MapI Kf [])):=by
 refine NewX.of_run hw hd fun σ' ext a w he s=> ?_
 refine⟨.map (some w.heap.size),w.alloc (.map #[] 0),?_,Fr.alloc _ _ _,by simp,⟨_,heap_alloc_new w _,_,_,rfl,rfl⟩,rfl⟩
 simp only [execOp,hop]
 rfl
end
end Go.AI
namespace Go.AI
section
variable {E : Env} {K : List It} {σ σ' : Sl} {h : Heap} {all rest : List Oper} {o : Oper}
theorem aw_convR {g n:Nat} {ty:TypeId} {f f':Nat→CV} {h:Heap} (hf:∀j,j<n→∀S w u,RepC S w (f j) u→RepC S w (f' j) u) (k:aw E K σ ((g,.cells ty n f')::h)):aw E K σ ((g,.cells ty n f)::h):=fun a w s=>by
 refine k a w ⟨s.size,s.defers,s.slots,fun g' o' hm=> ?_,s.nodup,s.keys,s.frame⟩
 rcases List.mem_cons.1 hm with e|hm
 ·injection e with e1 e2
  subst e1 e2
  obtain⟨cs,hb,hc,hj⟩:=s.heap _ _ (List.mem_cons_self ..)
  exact⟨cs,hb,hc,fun j hjl=>by obtain⟨u,hu,hr⟩:=hj j hjl;exact⟨u,hu,hf j hjl _ _ _ hr⟩⟩
 ·exact s.heap g' o' (List.mem_cons_of_mem _ hm)
theorem repC_nil {S:Bool→Nat→Prop} {w:World} {u:Value} {t:Bool} {s:Nat} {f:Nat→CV} (h:RepC S w .nils u):RepC S w (.row t s 0 f) u:=by
 obtain⟨A,hv⟩:=h
 exact⟨A,0,hv,Nat.le_refl _,fun h0=>by simp at h0⟩
theorem Sl.set_set (t:Nat) (u v:AV):∀σ:Sl,(σ.set t u).set t v=σ.set t v
 |[]=>by simp [Sl.set]
 |(t',x)::σ=>by
  simp only [Sl.set]
  by_cases e:t'=t
  ·rw [if_pos e,if_pos e];simp [Sl.set]
  ·rw [if_neg e,if_neg e];simp only [Sl.set,if_neg e];rw [Sl.set_set t u v σ]
theorem aw_frzT {t g s off n m:Nat} {ty:TypeId} {f:Nat→CV} (f':Nat→CV) {σ':Sl} {h':Heap} (ht:σ.get t=.c (.osl g s off n)) (hg:h.get g=some (.cells ty m f)) (hm:off+n*s≤m) (hn:¬E.C.own0 g) (hf:∀j,j<n*s→f (off+j)=f' j) (hσ:σ.set t (.c (.row true s n f'))=σ') (hh:h.del g=h')
  (k:aw E K σ' h'):aw E K σ h:=by
 refine aw_frz ht hg hm hn rfl hh ?_
 refine aw_conv (t:=t) (v:=.c (.row true s n f')) (σ':=σ') (fun S w u hr=> ?_) ?_ k
 ·rw [Sl.get_set,if_pos rfl] at hr
  obtain⟨A,c,hv,hc,hn⟩:=hr
  refine⟨A,c,hv,hc,fun h0=> ?_⟩
  obtain⟨ad,hA,hS,hj⟩:=hn h0
  refine⟨ad,hA,hS,fun j hjl=> ?_⟩
  obtain⟨u,hu,hru⟩:=hj j hjl
  exact⟨u,hu,by rw [←hf j hjl];exact hru⟩
 ·rw [←hσ,Sl.set_set]
theorem aw_rethw {P:Program} {fn:Func} {C:Ctx} {Q:AV→Heap→Prop} {rvs:List ResultVar} (hrs:fn.results=rvs.toArray) {h':Heap} (hsub:h'.Sublist h) (k:∀R:Option AV→Prop,(∀x,flatR x=true→Q x h'→R (some x))→R (resAV P σ h rvs)):
  aw (envOfH P fn C Q) (.code .ret::K) σ h:=by
 have hr:∀x,flatR x=true→Q x h'→some x=resAV P σ h rvs→aw (envOfH P fn C Q) (.code .ret::K) σ h:=fun x hf hq e a w s=>by
  refine wp_ret (exW_ret a w ?_)
  obtain⟨v,hv,hrep⟩:=results_run s hrs e.symm (flatR_spec hf)
  have hks:∀b,b∈h'.keys→b∈h.keys:=fun b hb=>by
   obtain⟨p,hp,e⟩:=List.mem_map.1 hb
   exact List.mem_map.2 ⟨p,hsub.subset hp,e⟩
  have kp:Keeps (Stab C h w) (Stab C h' w) w w:=⟨fun t b hb=>⟨hb.1,hb.2.1,fun hm=>hb.2.2 (hks b hm)⟩,fun _ _ _=>rfl,fun _ _ e=>e⟩
  exact⟨s.defers,v,hv,v,x,h',rfl,hq,(hsub.map _).nodup s.nodup,fun g hg=>s.keys g (hks g hg),hrep.keep kp,fun g o hm=>ORep.keep kp rfl (s.heap g o (hsub.subset hm)),s.frame⟩
 have:=k (fun y=>y=resAV P σ h rvs→aw (envOfH P fn C Q) (.code .ret::K) σ h) hr
 exact this rfl
theorem aw_frzG {gT m s n j0:Nat} {og:Option Nat} {ty tp:TypeId} {f f' fp:Nat→CV} (hf:f j0=gs og s n) (hf':f' j0=.row true s n fp) (hfo:∀j,j<m→j≠j0→f' j=f j) (hog:og=none→n=0) (ho:∀g,og=some g→¬E.C.own0 g)
  (k:aw E K σ ((gT,.cells ty m f')::h)):aw E K σ ((gT,.cells ty m f)::(gh og tp (n*s) fp++h)):=by
 cases og with
 |none=>
  have hn:=hog rfl
  subst hn
  refine aw_convR (f':=f') (fun j hj S w u hr=> ?_) k
  by_cases e:j=j0
  ·subst e
   rw [hf] at hr
   rw [hf']
   exact repC_nil hr
  ·rw [hfo j hj e];exact hr
 |some gP=>
  have ho:=ho gP rfl
  show aw E K σ ((gT,.cells ty m f)::(gP,.cells tp (n*s) fp)::h)
  intro a w st
  refine k a w ?_
  have hnd:=st.nodup
  simp only [Heap.keys,List.map_cons,List.nodup_cons,List.mem_cons,not_or] at hnd
  obtain⟨⟨hTP,hTh⟩,hPh,hh⟩:=hnd
  have hgm:(gP,AObj.cells tp (n*s) fp)∈(gT,AObj.cells ty m f)::(gP,.cells tp (n*s) fp)::h:=List.mem_cons_of_mem _ (List.mem_cons_self ..)
  have hkg:gP∈Heap.keys ((gT,AObj.cells ty m f)::(gP,.cells tp (n*s) fp)::h):=List.mem_map.2 ⟨_,hgm,rfl⟩
  have hks:∀b,b∈Heap.keys ((gT,AObj.cells ty m f')::h)→b∈Heap.keys ((gT,AObj.cells ty m f)::(gP,.cells tp (n*s) fp)::h):=fun b hb=>by
   simp only [Heap.keys,List.map_cons,List.mem_cons] at hb⊢
   exact hb.imp id .inr
  have kp:Keeps (Stab E.C ((gT,.cells ty m f)::(gP,.cells tp (n*s) fp)::h) w) (Stab E.C ((gT,.cells ty m f')::h) w) w w:=⟨fun t b hb=>⟨hb.1,hb.2.1,fun hm=>hb.2.2 (hks b hm)⟩,fun _ _ _=>rfl,fun _ _ e=>e⟩
  refine⟨st.size,st.defers,fun t=>Rep.keep kp (st.slots t),fun g ob hm=> ?_,?_,fun g hg=>st.keys g (hks g hg),st.frame⟩
  ·rcases List.mem_cons.1 hm with e|hm
   ·rw [Prod.mk.injEq] at e
    obtain⟨e1,e2⟩:=e
    rw [e1,e2]
    clear hm e1 e2
    obtain⟨cs,hb,hcs,hj⟩:=st.heap gT _ (List.mem_cons_self ..)
    refine⟨cs,hb,hcs,fun j hjm=> ?_⟩
    obtain⟨u,hu,hr⟩:=hj j hjm
    refine⟨u,hu,?_⟩
    by_cases e:j=j0
    ·subst e
     rw [hf] at hr
     rw [hf']
     obtain⟨c,hv,hc,_,_⟩:=hr
     obtain⟨cs2,hb2,hcs2,hj2⟩:=st.heap gP _ hgm
     refine⟨some ⟨gP,0,none⟩,c,hv,hc,fun _=>⟨⟨gP,0,none⟩,rfl,⟨.inr ((st.keys gP hkg).resolve_left ho),st.klt hkg,?_⟩,fun q hq=> ?_⟩⟩
     ·simp only [Heap.keys,List.map_cons,List.mem_cons,not_or]
      exact⟨fun e=>hTP e.symm,hPh⟩
     ·obtain⟨u2,hu2,hr2⟩:=hj2 q hq
      exact⟨u2,by rw [add_mk,Nat.zero_add,cell_own hb2];exact hu2,hr2.keep kp⟩
    ·rw [hfo j hjm e]
     exact hr.keep kp
   ·exact ORep.keep kp rfl (st.heap g ob (List.mem_cons_of_mem _ (List.mem_cons_of_mem _ hm)))
  ·simp only [Heap.keys,List.map_cons,List.nodup_cons]
   exact⟨hTh,hh⟩
theorem aw_frzGT {t s n n':Nat} {og:Option Nat} {ty:TypeId} {f f':Nat→CV} (hog:og=none→n=0) (hnn:n=n') (ht:σ.get t=.c (gs og s n)) (hn:∀g,og=some g→¬E.C.own0 g) (hf:∀j,j<n*s→f j=f' j) (hσ:σ.set t (.c (.row true s n' f'))=σ') (k:aw E K σ' h):aw E K σ (gh og ty (n*s) f++h):=by
 subst hnn
 cases og with
 |none=>
  have h0:=hog rfl
  subst h0
  refine aw_conv (t:=t) (v:=.c (.row true s 0 f')) (fun S w u hr=> ?_) hσ k
  rw [ht] at hr
  exact repC_nil hr
 |some g=>
  refine aw_frzT (t:=t) (g:=g) (s:=s) (off:=0) (n:=n) (m:=n*s) (ty:=ty) (f:=f) f' ht ?_ om (hn g rfl) (fun j hj=>by rw [Nat.zero_add];exact hf j hj) hσ ?_ k
  ·show Heap.get ((g,_)::h) g=_
   simp [Heap.get]
  ·show Heap.del ((g,_)::h) g=_
   simp [Heap.del]
end
end Go.AI
namespace Go.AI
attribute [go_sem] List.size_toArray Int.reduceBEq Int.reduceBNe Int.reduceLT Int.reduceLE Int.reduceGT Int.reduceGE decide_true decide_false
@[go_sem] theorem cast_add' (a b:Nat):((a+b:Nat):Int)=(a:Int)+(b:Int):=rfl
@[go_sem] theorem cast_one':((1:Nat):Int)=1:=rfl
@[go_sem] theorem cast_zero':((0:Nat):Int)=0:=rfl
@[go_sem] theorem beqNN (a b:Nat):((a:Int)==(b:Int))=(a==b):=by rw [Bool.eq_iff_iff,beq_iff_eq,beq_iff_eq];omega
@[go_sem] theorem beqNL (a k:Nat):((a:Int)==(no_index (OfNat.ofNat k):Int))=(a==OfNat.ofNat k):=beqNN a k
@[go_sem] theorem beqN0 (a:Nat):((a:Int)==0)=(a==0):=beqNN a 0
@[go_sem] theorem beqN1 (a:Nat):((a:Int)==1)=(a==1):=beqNN a 1
@[go_sem] theorem bneNN (a b:Nat):((a:Int) !=(b:Int))=(a !=b):=by unfold bne;rw [beqNN]
@[go_sem] theorem bneNL (a k:Nat):((a:Int) !=(no_index (OfNat.ofNat k):Int))=(a !=OfNat.ofNat k):=bneNN a k
@[go_sem] theorem bneN0 (a:Nat):((a:Int) !=0)=(a !=0):=bneNN a 0
@[go_sem] theorem bneN1 (a:Nat):((a:Int) !=1)=(a !=1):=bneNN a 1
@[go_sem] theorem ltNN (a b:Nat):decide ((a:Int)<(b:Int))=decide (a<b):=by rw [decide_eq_decide];omega
@[go_sem] theorem leNN (a b:Nat):decide ((a:Int)≤(b:Int))=decide (a≤b):=by rw [decide_eq_decide];omega
@[go_sem] theorem ltNL (a k:Nat):decide ((a:Int)<(no_index (OfNat.ofNat k):Int))=decide (a<OfNat.ofNat k):=ltNN a k
@[go_sem] theorem leNL (a k:Nat):decide ((a:Int)≤(no_index (OfNat.ofNat k):Int))=decide (a≤OfNat.ofNat k):=leNN a k
@[go_sem] theorem gtNL (a k:Nat):decide ((a:Int)>(no_index (OfNat.ofNat k):Int))=decide (a>OfNat.ofNat k):=ltNN k a
@[go_sem] theorem geNL (a k:Nat):decide ((a:Int)≥(no_index (OfNat.ofNat k):Int))=decide (a≥OfNat.ofNat k):=leNN k a
@[go_sem] theorem gtN0 (a:Nat):decide ((a:Int)>0)=decide (0<a):=ltNN 0 a
@[go_sem] theorem geNN (a b:Nat):decide ((a:Int)≥(b:Int))=decide (a≥b):=leNN b a
@[go_sem] theorem gtNN (a b:Nat):decide ((a:Int)>(b:Int))=decide (a>b):=ltNN b a
@[go_sem] theorem ltSN (a b:Nat):decide ((a:Int)+1<(b:Int))=decide (a+1<b):=ltNN (a+1) b
@[go_sem] theorem ltN1 (a:Nat):decide ((a:Int)<1)=decide (a<1):=ltNN a 1
@[go_sem] theorem toNat_succ' (a:Nat):((a:Int)+1).toNat=a+1:=rfl
theorem set_ofL (l:List CV) (k:Nat) (c:CV) (h:k<l.length):(fun j=>if j=k then c else ofL l j)=ofL (l.set k c):=by
 funext j
 induction l generalizing k j with
 |nil=>simp at h
 |cons x l ih=>
  cases k with
  |zero=>cases j with
   |zero=>rfl
   |succ j=>rfl
  |succ k=>cases j with
   |zero=>rfl
   |succ j=>
    have:=ih k (by simpa using h) j
    simpa [ofL] using this
@[go_sem] theorem updF_ofLc (l:List CV) (k:Nat) (c:CV) (cs:List CV) (h:k<l.length):updF (ofL l) k (c::cs)=updF (ofL (l.set k c)) (k+1) cs:=by
  show updF (fun j=>if j=k then c else ofL l j) (k+1) cs=_
  rw [set_ofL l k c h]
@[go_sem] theorem updF_ofLn (l:List CV) (k:Nat):updF (ofL l) k []=ofL l:=rfl
theorem Heap.get_perm:∀{h:Heap} {g:Nat} {ob:AObj},h.get g=some ob→h.Perm ((g,ob)::h.del g)
 |[],_,_,e=>by simp [Heap.get] at e
 |(g',x)::h,g,ob,e=>by
  by_cases hg:g'=g
  ·subst hg
   simp [Heap.get] at e
   subst e
   simp [Heap.del]
  ·simp only [Heap.get,if_neg hg] at e
   simp only [Heap.del,if_neg hg]
   exact((Heap.get_perm e).cons _).trans (List.Perm.swap _ _ _)
theorem Heap.set_perm:∀{h:Heap} {g:Nat} {ob ob':AObj},h.get g=some ob→(h.set g ob').Perm ((g,ob')::h.del g)
 |[],_,_,_,e=>by simp [Heap.get] at e
 |(g',x)::h,g,ob,ob',e=>by
  by_cases hg:g'=g
  ·subst hg
   simp [Heap.set,Heap.del]
  ·simp only [Heap.get,if_neg hg] at e
   simp only [Heap.set,Heap.del,if_neg hg]
   exact((Heap.set_perm e).cons _).trans (List.Perm.swap _ _ _)
def Fg (P:Program) (f:FuncId) (g:Nat) (ob:AObj) (args:List AV) (r:AV) (ob':AObj):Prop:=Fh P f [(g,ob)] args fun x h=>x=r∧h=[(g,ob')]
section
variable {E : Env} {K : List It} {σ σ' : Sl} {h : Heap} {all l rest : List Oper} {o : Oper}
theorem aw_cg {f:FuncId} {xs:List Operand} {ts:Array TypeId} {g:Nat} {ob ob':AObj} {args:List AV} {r:AV} (hf:Fg E.P f g ob args r ob') (hop:o.op=.call {callee:=.value (.func f),args:=xs.toArray,argTypes:=ts}) (hw:wantA all σ o=some true) (hd:dstOk E.N o.dst=true)
  (hg:h.get g=some ob) (le:LeA [] (xs.map (ev σ)) args) (k:aw E (.ops all rest::K) (σ.setO o.dst r) (h.set g ob')):aw E (.ops all (o::rest)::K) σ h:=by
 refine aw_callh hf hop hw hd (hr:=h.del g) (Heap.get_perm hg) le ?_
 rintro _ _ ⟨rfl,rfl⟩ _
 exact aw_perm (Heap.set_perm hg).symm k
theorem aw_pok {r:AV} (hp:POk E.P h (ev σ) o.op r) (hw:wantA all σ o=some true) (hd:dstOk E.N o.dst=true) (k:aw E (.ops all rest::K) (σ.setO o.dst r) h):aw E (.ops all (o::rest)::K) σ h:=aw_pure hw hp hd rfl k
theorem yA1 {F X G:Prop} (f:F) (x:X) (k:F→Hold X→G:=by
 intro f x
 (first|apply wa1|apply wa2|apply wa3|apply wa4|apply wa5 rfl|apply wa6|apply wa7|(refine wb1 rfl fun R r=>?_;simp only[go_sem,f];with_reducible show R (some _);with_reducible refine r _ _ ?_;clear r R)|apply wa8|(refine wd1 rfl fun R r=>?_;simp only[go_sem,f];with_reducible show R (some _);with_reducible refine r _ _ ?_;clear r R))
 (repeat first|apply wa1|apply wa2|apply wa3|apply wa4|apply wa5 rfl|apply wa6|apply wa7|(refine wb1 rfl fun R r=>?_;simp only[go_sem,f];with_reducible show R (some _);with_reducible refine r _ _ ?_;clear r R)|apply wa8|(refine wd1 rfl fun R r=>?_;simp only[go_sem,f];with_reducible show R (some _);with_reducible refine r _ _ ?_;clear r R))
 exact x.out):G:=k f ⟨x⟩
theorem zL2 {F P:Prop} (f:F) (k:F→P:=by intro f;first|exact True.intro|(simp only[go_sem,f]<;>and_intros<;>first|exact True.intro|exact .c (.refl _)|exact .c wl2|exact .agg (lel_refl _)|(refine .agg ?_;simp only[LeL];and_intros<;>first|exact True.intro|exact .refl _|exact wl2|exact .nils)|exact .c .nils)):P:=k f
theorem yC2 {f:FuncId} {xs:List Operand} {ts:Array TypeId} {args:List AV} {r:AV} {X F:Prop} (q:F) (hf:Fa E.P f args r) (x:X) (hop:o.op=.call {callee:=.value (.func f),args:=xs.toArray,argTypes:=ts}:=by exact rfl) (hw:wantA all σ o=some true:=by exact rfl) (hd:dstOk E.N o.dst=true:=by exact rfl)
 (le:F→LeA h (xs.map (ev σ)) args:=by intro f;first|exact True.intro|(simp only[go_sem,f]<;>and_intros<;>first|exact True.intro|exact .c (.refl _)|exact .c wl2|exact .agg (lel_refl _)|(refine .agg ?_;simp only[LeL];and_intros<;>first|exact True.intro|exact .refl _|exact wl2|exact .nils)|exact .c .nils)) (k:F→Hold X→aw E (.ops all rest::K) (σ.setO o.dst r) h:=by intro f x;(try simp only[go_sem,f]);exact x.out):aw E (.ops all (o::rest)::K) σ h:=aw_callq hf hop hw hd (le q) (k q ⟨x⟩)
theorem yD2 {f:FuncId} {xs:List Operand} {ts:Array TypeId} {args:List AV} {r:AV} {n:Nat} {X F:Prop} (q:F) (hf:Fa E.P f args r) (x:X) (hop:o.op=.call {callee:=.value (.func f),args:=xs.toArray,argTypes:=ts}:=by exact rfl) (hw:wantA l σ o=some true:=by exact rfl) (hd:dstOk E.N o.dst=true:=by exact rfl)
 (le:F→LeA h (xs.map (ev σ)) args:=by intro f;first|exact True.intro|(simp only[go_sem,f]<;>and_intros<;>first|exact True.intro|exact .c (.refl _)|exact .c wl2|exact .agg (lel_refl _)|(refine .agg ?_;simp only[LeL];and_intros<;>first|exact True.intro|exact .refl _|exact wl2|exact .nils)|exact .c .nils)) (k:F→Hold X→DrK E h l K n rest (σ.setO o.dst r):=by intro f x;(try simp only[go_sem,f]);exact x.out):DrK E h l K (n+1) (o::rest) σ:=drk_call hf hop hw hd (le q) (k q ⟨x⟩)
end
end Go.AI
namespace Go.AI
structure Bq (b:Bool) (p q:Prop):Prop where
 t:b=true→p
 f:b=false→q
theorem bqd {p:Prop} [Decidable p]:Bq (decide p) p (¬p):=⟨of_decide_eq_true,of_decide_eq_false⟩
theorem bqe {α:Type} [BEq α] [LawfulBEq α] {a b:α}:Bq (a==b) (a=b) (a≠b):=⟨fun e=>by simpa using e,fun e=>by simpa using e⟩
theorem bqn {α:Type} [BEq α] [LawfulBEq α] {a b:α}:Bq (a !=b) (a≠b) (a=b):=⟨fun e=>by simpa using e,fun e=>by simpa using e⟩
theorem bqt {b:Bool}:Bq b (b=true) (b=false):=⟨id,id⟩
theorem bqT:Bq true (true=true) (true=false):=⟨id,id⟩
theorem bqF:Bq false (false=true) (false=false):=⟨id,id⟩
section
variable {E : Env} {K : List It} {σ : Sl} {h : Heap} {all l rest : List Oper} {o : Oper} {F X Y : Prop}
theorem zW {t g off m n:Nat} {ty:TypeId} {ag:Bool} {fc:Nat→CV} {a y:Operand} {v:AV} {h':Heap} (q:F) (x:X) (hop:o.op=.store t a y:=by exact rfl) (hw:wantA all σ o=some true:=by exact rfl) (hd:dstOk E.N o.dst=true:=by exact rfl) (hdn:o.dst=none:=by exact rfl) (ha:F→ev σ a=.c (.optr g off):=by intro f;simp only[go_sem,f]<;>rfl) (hx:F→ev σ y=v:=by intro f;simp only[go_sem,f]<;>rfl)
 (hg:F→h.get g=some (.cells ty m fc):=by intro f;simp only[go_sem,f]<;>rfl) (ht:F→tSz E.P t=some (ag,n):=by intro f;simp only[go_sem,f]<;>rfl) (hnt:∀xs,v≠.tup xs:=by exact fun _ e=>by cases e) (hs:v.cells.all CV.solid=true:=by first|rfl|exact solid_gs3) (hlen:v.cells.length=n:=by rfl) (hle:off+n≤m:=by first|omega|simp)
 (hh:h.set g (.cells ty m (updF fc off v.cells))=h':=by exact rfl) (k:F→Hold X→aw E (.ops all rest::K) σ h':=by intro f x;(try simp only[go_sem,f]);exact x.out):aw E (.ops all (o::rest)::K) σ h:=aw_store hop hw hd hdn (ha q) (hx q) (hg q) (ht q) hnt hs hlen hle hh (k q ⟨x⟩)
theorem zg {f:FuncId} {xs:List Operand} {ts:Array TypeId} {g:Nat} {ob ob':AObj} {args:List AV} {r:AV} (q:F) (hf:Fg E.P f g ob args r ob') (x:X) (hop:o.op=.call {callee:=.value (.func f),args:=xs.toArray,argTypes:=ts}:=by exact rfl) (hw:wantA all σ o=some true:=by exact rfl) (hd:dstOk E.N o.dst=true:=by exact rfl)
 (hg:F→h.get g=some ob:=by intro f;simp only[go_sem,f]<;>rfl) (le:F→LeA [] (xs.map (ev σ)) args:=by intro f;exact zL2 f) (k:F→Hold X→aw E (.ops all rest::K) (σ.setO o.dst r) (h.set g ob'):=by intro f x;(try simp only[go_sem,f]);exact x.out):aw E (.ops all (o::rest)::K) σ h:=aw_cg hf hop hw hd (hg q) (le q) (k q ⟨x⟩)
theorem zC {t:Nat} {y z:Code} {b:Bool} {p1 p2:Prop} (q:F) (k1:p1→aw E (.code y::K) σ h) (k2:p2→aw E (.code z::K) σ h) (hb:F→σ.get t=.c (.bool b):=by intro f;simp only[go_sem,f]<;>rfl) (hp:Bq b p1 p2:=by first|exact bqd|exact bqe|exact bqn|((fail_if_success (with_reducible exact bqT));(fail_if_success (with_reducible exact bqF));exact bqt)):aw E (.code (.cond (.tmp t) y z)::K) σ h:=
 aw_cond (hb q) (fun e=>k1 (hp.t e)) fun e=>k2 (hp.f e)
theorem zG {t j:Nat} {want b:Bool} {p1 p2:Prop} (q:F) (x:p1→X) (y:p2→Y) (hg:o.guard=some (j,want):=by exact rfl) (hj:(all[j]?).bind (·.dst)=some t:=by exact rfl) (hb:F→σ.get t=.c (.bool b):=by intro f;simp only[go_sem,f]<;>rfl) (hp:Bq b p1 p2:=by first|exact bqd|exact bqe|exact bqn|((fail_if_success (with_reducible exact bqT));(fail_if_success (with_reducible exact bqF));exact bqt))
 (k1:F→Hold X→aw E (.ops all (o::rest)::K) (σ.set t (.c (.bool true))) h:=by intro f x;(try simp only[go_sem,f]);exact x.out) (k2:F→Hold Y→aw E (.ops all (o::rest)::K) (σ.set t (.c (.bool false))) h:=by intro f x;(try simp only[go_sem,f]);exact x.out):aw E (.ops all (o::rest)::K) σ h:=aw_split t (hb q) (fun e=>k1 q ⟨x (hp.t e)⟩) fun e=>k2 q ⟨y (hp.f e)⟩
theorem zD {t j n:Nat} {want b:Bool} {p1 p2:Prop} (q:F) (x:p1→X) (y:p2→Y) (hg:o.guard=some (j,want):=by exact rfl) (hj:(l[j]?).bind (·.dst)=some t:=by exact rfl) (hb:F→σ.get t=.c (.bool b):=by intro f;simp only[go_sem,f]<;>rfl) (hp:Bq b p1 p2:=by first|exact bqd|exact bqe|exact bqn|((fail_if_success (with_reducible exact bqT));(fail_if_success (with_reducible exact bqF));exact bqt))
 (k1:F→Hold X→DrK E h l K n (o::rest) (σ.set t (.c (.bool true))):=by intro f x;(try simp only[go_sem,f]);exact x.out) (k2:F→Hold Y→DrK E h l K n (o::rest) (σ.set t (.c (.bool false))):=by intro f x;(try simp only[go_sem,f]);exact x.out):DrK E h l K n (o::rest) σ:=drk_split t (hb q) (fun e=>k1 q ⟨x (hp.t e)⟩) fun e=>k2 q ⟨y (hp.f e)⟩
end
end Go.AI
