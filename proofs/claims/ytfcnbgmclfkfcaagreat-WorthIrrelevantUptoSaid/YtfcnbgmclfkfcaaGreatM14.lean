/- Parts of one proof, laid by a program. -/
import Derived.Test.YtfcnbgmclfkfcaaGreatM00
import Derived.Test.YtfcnbgmclfkfcaaGreatM13
import Derived.Test.YtfcnbgmclfkfcaaGreatRows
import Derived.WalkKit
import Derived.ProofKit
import Derived.OpenShut
import Derived.JoinedCond
import Derived.Carry
set_option linter.unusedSimpArgs false
set_option linter.unusedVariables false
namespace Go.AI
open Go.PN
def isF (xs:List Int) (j:Nat):CV:=.int .i64 (xs.getD j 0)
@[go_sem] theorem isF_at (xs:List Int) (j:Nat):isF xs j=.int .i64 (xs.getD j 0):=rfl
abbrev is (t:Bool) (xs:List Int):CV:=.row t 1 xs.length (isF xs)
def bsF (xs:List Bool) (j:Nat):CV:=.bool (xs.getD j false)
@[go_sem] theorem bsF_at (xs:List Bool) (j:Nat):bsF xs j=.bool (xs.getD j false):=rfl
abbrev bs (t:Bool) (xs:List Bool):CV:=.row t 1 xs.length (bsF xs)
def rd0:RD:=⟨false,[],[]⟩
def ratsF (ps:List RD):Nat→CV:=lf 3 (fun r:RD=>[CV.bool r.neg,ws true r.num,ws true r.den]) rd0 ps
@[go_sem] theorem ratsF_0 (ps:List RD) (i:Nat):ratsF ps (i*3)=.bool (ps.getD i rd0).neg:=by
 have:=lf_at (s:=3) (c:=fun r:RD=>[CV.bool r.neg,ws true r.num,ws true r.den]) (d:=rd0) (xs:=ps) (i:=i) (k:=0) om
 exact this
@[go_sem] theorem ratsF_1 (ps:List RD) (i:Nat):ratsF ps (i*3+1)=ws true (ps.getD i rd0).num:=by
 have:=lf_at (s:=3) (c:=fun r:RD=>[CV.bool r.neg,ws true r.num,ws true r.den]) (d:=rd0) (xs:=ps) (i:=i) (k:=1) om
 exact this
@[go_sem] theorem ratsF_2 (ps:List RD) (i:Nat):ratsF ps (i*3+2)=ws true (ps.getD i rd0).den:=by
 have:=lf_at (s:=3) (c:=fun r:RD=>[CV.bool r.neg,ws true r.num,ws true r.den]) (d:=rd0) (xs:=ps) (i:=i) (k:=2) om
 exact this
abbrev rats (t:Bool) (ps:List RD):CV:=.row t 3 ps.length (ratsF ps)
structure DN where
 v:Int
 lo:Int
 hi:Int
 deriving DecidableEq
def dn0:DN:=⟨0,0,0⟩
def dnsF (ns:List DN):Nat→CV:=lf 3 (fun r:DN=>[CV.int .i64 r.v,.int .i64 r.lo,.int .i64 r.hi]) dn0 ns
@[go_sem] theorem dnsF_0 (ps:List DN) (i:Nat):dnsF ps (i*3)=.int .i64 (ps.getD i dn0).v:=by
 have:=lf_at (s:=3) (c:=fun r:DN=>[CV.int .i64 r.v,.int .i64 r.lo,.int .i64 r.hi]) (d:=dn0) (xs:=ps) (i:=i) (k:=0) om
 exact this
@[go_sem] theorem dnsF_1 (ps:List DN) (i:Nat):dnsF ps (i*3+1)=.int .i64 (ps.getD i dn0).lo:=by
 have:=lf_at (s:=3) (c:=fun r:DN=>[CV.int .i64 r.v,.int .i64 r.lo,.int .i64 r.hi]) (d:=dn0) (xs:=ps) (i:=i) (k:=1) om
 exact this
@[go_sem] theorem dnsF_2 (ps:List DN) (i:Nat):dnsF ps (i*3+2)=.int .i64 (ps.getD i dn0).hi:=by
 have:=lf_at (s:=3) (c:=fun r:DN=>[CV.int .i64 r.v,.int .i64 r.lo,.int .i64 r.hi]) (d:=dn0) (xs:=ps) (i:=i) (k:=2) om
 exact this
abbrev dns (t:Bool) (ns:List DN):CV:=.row t 3 ns.length (dnsF ns)
structure DG where
 order:List Int
 nodes:List DN
 root:Int
abbrev dgc (t:Bool) (d:DG):List CV:=[is t d.order,dns t d.nodes,.int .i64 d.root]
structure FN where
 kind:Int
 k:Int
 args:List Int
def fn0:FN:=⟨0,0,[]⟩
def fnsF (ns:List FN):Nat→CV:=lf 3 (fun r:FN=>[CV.int .i64 r.kind,.int .i64 r.k,is true r.args]) fn0 ns
@[go_sem] theorem fnsF_0 (ps:List FN) (i:Nat):fnsF ps (i*3)=.int .i64 (ps.getD i fn0).kind:=by
 have:=lf_at (s:=3) (c:=fun r:FN=>[CV.int .i64 r.kind,.int .i64 r.k,is true r.args]) (d:=fn0) (xs:=ps) (i:=i) (k:=0) om
 exact this
@[go_sem] theorem fnsF_1 (ps:List FN) (i:Nat):fnsF ps (i*3+1)=.int .i64 (ps.getD i fn0).k:=by
 have:=lf_at (s:=3) (c:=fun r:FN=>[CV.int .i64 r.kind,.int .i64 r.k,is true r.args]) (d:=fn0) (xs:=ps) (i:=i) (k:=1) om
 exact this
@[go_sem] theorem fnsF_2 (ps:List FN) (i:Nat):fnsF ps (i*3+2)=is true (ps.getD i fn0).args:=by
 have:=lf_at (s:=3) (c:=fun r:FN=>[CV.int .i64 r.kind,.int .i64 r.k,is true r.args]) (d:=fn0) (xs:=ps) (i:=i) (k:=2) om
 exact this
abbrev fns (t:Bool) (ns:List FN):CV:=.row t 3 ns.length (fnsF ns)
structure FM where
 vars:Int
 nodes:List FN
 top:Int
abbrev fmc (t:Bool) (f:FM):List CV:=[.int .i64 f.vars,fns t f.nodes,.int .i64 f.top]
def errC (T:TypeId) (c:Int):CV:=if c=0 then .nilI else .ifc T (.int .i64 c)
@[go_sem] theorem errC_solid (T:TypeId) (c:Int):(errC T c).solid=true:=by unfold errC;split<;>rfl
theorem binAV_errE {P:Program} {nw:Bool} {t T:TypeId} {y:Operand} {c:Int} (hy:isNil y=true):binAV P nw .eql t y (.c (errC T c)) (.c .nilI)=some (tIfc P t=true,.c (.bool (decide (c=0)))):=by
 unfold errC
 split
 ·rename_i h;simp [binAV,hy,nilAV,h]
 ·rename_i h;simp [binAV,hy,nilAV,h]
theorem binAV_errN {P:Program} {nw:Bool} {t T:TypeId} {y:Operand} {c:Int} (hy:isNil y=true):binAV P nw .neq t y (.c (errC T c)) (.c .nilI)=some (tIfc P t=true,.c (.bool (!decide (c=0)))):=by
 unfold errC
 split
 ·rename_i h;simp [binAV,hy,nilAV,h]
 ·rename_i h;simp [binAV,hy,nilAV,h]
@[go_sem ↓] theorem binAV_errE' (P:Program) (nw:Bool) (t T:TypeId) (c:Int):binAV P nw .eql t (.const .nilIface) (.c (errC T c)) (.c .nilI)=some (tIfc P t=true,.c (.bool (decide (c=0)))):=binAV_errE rfl
@[go_sem ↓] theorem binAV_errN' (P:Program) (nw:Bool) (t T:TypeId) (c:Int):binAV P nw .neq t (.const .nilIface) (.c (errC T c)) (.c .nilI)=some (tIfc P t=true,.c (.bool (!decide (c=0)))):=binAV_errN rfl
theorem ler_err {h:Heap} {T:TypeId} {c:Int}:LeR h (errC T c) (errC T c):=by unfold errC;split;exact .nilI;exact .ifc (.int _ _)
theorem ler_err0 {h:Heap} {T:TypeId} {c:Int} (e:c=0):LeR h .nilI (errC T c):=by unfold errC;rw [if_pos e];exact .nilI
theorem ler_errN {h:Heap} {T:TypeId} {n c:Int} (e:n=c) (h0:c≠0):LeR h (.ifc T (.int .i64 n)) (errC T c):=by unfold errC;rw [if_neg h0,e];exact .ifc (.int _ _)
theorem ler_is {h:Heap} {t:Bool} {xs:List Int}:LeR h (is true xs) (is t xs):=.row fun _ _=>.int _ _
theorem lf_ler {α:Type} {h:Heap} {s:Nat} {c:α→List CV} {d:α} {xs:List α} (hs:0<s) (hc:∀x∈xs,∀k,k<s→LeR h (ofL (c x) k) (ofL (c x) k)):∀j,j<xs.length*s→LeR h (lf s c d xs j) (lf s c d xs j):=fun j hj=>by
 unfold lf
 have h1:j/s<xs.length:=(Nat.div_lt_iff_lt_mul hs).2 hj
 rw [List.getD_eq_getElem?_getD,List.getElem?_eq_getElem h1]
 exact hc _ (List.getElem_mem h1) _ (Nat.mod_lt _ hs)
theorem ler_rats {h:Heap} {t:Bool} {ps:List RD}:LeR h (rats true ps) (rats t ps):=
 .row (lf_ler om fun x _ k hk=>by match k,hk with|0,_=>exact .bool _|1,_=>exact ler_ws|2,_=>exact ler_ws)
end Go.AI
namespace Go.Proofs.YtfcnbgmclfkfcaaGreat
open Go.AI Go.PN
attribute [local irreducible] aw Fa Fh DrK
abbrev errA (c:Int):CV:=errC 51 c
theorem list_ext {xs ys:List Nat} (hl:xs.length=ys.length) (h:∀j,j<xs.length→xs.getD j 0=ys.getD j 0):xs=ys:=by
 apply List.ext_getElem hl
 intro i h1 h2
 have:=h i h1
 rw [List.getD_eq_getElem?_getD,List.getD_eq_getElem?_getD,List.getElem?_eq_getElem h1,List.getElem?_eq_getElem h2] at this
 exact this
set_option maxHeartbeats 800000 in
theorem words_fa (xs ys:List Nat) (hl:xs.length≤68719476736):Fa Tryz.prog 52 [.c (ws false xs),.c (ws false ys)] (.c (.bool (decide (xs=ys)))):=by
 refine fa_of_body Tryz.func52 rfl rfl (by simp [Tryz.ntmps52]) fun C hC=> ?_
 simp only [initS,Nat.reduceAdd]
 refine xG ?_
 refine xF (fun hb=>?_) fun hb=>?_
 ·refine xGT hC ?_
  refine .one (.c (ler_bool ?_))
  have:xs≠ys:=fun e=>by rw [e] at hb;simp at hb
  simp [this]
 ·have hlen:xs.length=ys.length:=by
   have:((xs.length:Int)==(ys.length:Int))=true:=by simpa [bne] using hb
   have:=eq_of_beq this;omega
  refine xG ?_
  refine aw_lp (fun i:Nat=>[(0,.c (ws false xs)),(1,.c (ws false ys)),(12,.c (.int .i64 xs.length)),(13,.c (.int .i64 i))]) (fun _=>[]) (fun i=>i≤xs.length∧∀j,j<i→xs.getD j 0=ys.getD j 0) (fun i=>xs.length-i) 0 eB zZ ⟨Nat.zero_le _,fun j hj=>by omega⟩ ?_
  rintro i ⟨hi,hs⟩
  refine xG ?_
  refine xF (fun hb=>?_) fun hb=>?_
  ·have hin:i<xs.length:=dT hb
   refine xG ?_
   refine aw_dr 9 ty_mixed (by kernel_rfl) ?_
   refine xG ?_
   refine xF (fun hc=>?_) fun hc=>?_
   ·refine xGT hC ?_
    refine .one (.c (ler_bool ?_))
    have:xs≠ys:=fun e=>by rw [e] at hc;simp at hc
    simp [this]
   ·have he:xs.getD i 0=ys.getD i 0:=by
     have:(((xs.getD i 0:Nat):Int)==((ys.getD i 0:Nat):Int))=true:=by simpa [bne] using hc
     have:=eq_of_beq this;omega
    refine xG ?_
    refine aw_stop ⟨i+1,by omega,eB,zZ,by omega,fun j hj=> ?_⟩
    by_cases hji:j=i
    ·rw [hji];exact he
    ·exact hs j om
  ·have hin:i=xs.length:=dF hb
   subst hin
   refine xGT hC ?_
   refine .one (.c (ler_bool ?_))
   have:xs=ys:=list_ext hlen hs
   simp [this]
instance:DecidableEq RD:=fun a b=>decidable_of_iff (a.neg=b.neg∧a.num=b.num∧a.den=b.den) (by cases a;cases b;simp)
set_option maxHeartbeats 800000 in
theorem ratEq_fa (a b:RD) (hw:a.wf 68719476736):Fa Tryz.prog 16 [.agg (rdc a),.agg (rdc b)] (.c (.bool (decide (a=b)))):=by
 have he:decide (a=b)=(decide (a.neg=b.neg)&&(decide (a.num=b.num)&&decide (a.den=b.den))):=by
  rw [Bool.eq_iff_iff]
  simp only [decide_eq_true_eq,Bool.and_eq_true]
  cases a;cases b;simp
 rw [he]
 refine fa_of_body Tryz.func16 rfl rfl (by simp [Tryz.ntmps16]) fun C hC=> ?_
 simp only [initS,Nat.reduceAdd]
 refine xG ?_
 refine xB fun g2 hn_g2=>?_
 refine yB hn_g2 fun g3 hn_g3=>?_
 have J1:=oj hn_g2 hn_g3
 refine yG J1 ?_
 refine aw_split 10 (zE J1) (fun h1=> ?_) (fun h1=> ?_)<;>refine yS J1 ?_
 ·have h1':a.neg=b.neg:=eq_of_beq h1
  refine yG J1 ?_
  refine yC J1 (words_fa _ _ hw.2.2.1) ?_
  refine yG J1 ?_
  refine aw_split 17 (zE J1) (fun h2=> ?_) (fun h2=> ?_)<;>refine yS J1 ?_
  ·refine yG J1 ?_
   refine yC J1 (words_fa _ _ hw.2.2.2) ?_
   refine yGT hC J1 ?_
   exact .one (.c (ler_bool (by rw [h2,h1'];simp)))
  ·refine yGT hC J1 ?_
   exact .one (.c (ler_bool (by rw [h2];simp)))
 ·have h1':a.neg≠b.neg:=fun e=>by rw [e] at h1;simp at h1
  refine yGT hC J1 ?_
  exact .one (.c (ler_bool (by simp [h1'])))
theorem rdec_eq {a b:RD} (h:a=b):decide (a=b)=true:=by simp [h]
end Go.Proofs.YtfcnbgmclfkfcaaGreat
namespace Go.AI
open Go.PN
def AllB (w:World):Bool→Nat→Prop:=fun _ b=>b<w.heap.size
theorem Fa.below {P:Program} {f:FuncId} {args:List AV} {b:Bool} (hf:Fa P f args (.c (.bool b))) {w:World} {vs:List Value} (hr:RepT (AllB w) w args vs):
 Calls P f vs.toArray w fun e w'=>e=.returned (.bool b)∧RowKit.Below w.heap.size w w':=by
 refine(hf.2 (AllB w) w vs (fun _ h=>h) (fun _ _ h=>h) hr).mono ?_
 rintro e w' ⟨v,rfl,hv,hfr⟩
 have hv':v=.bool b:=hv
 subst hv'
 exact⟨rfl,hfr.os,hfr.tape,hfr.output,hfr.size,fun k hk=>hfr.block k hk (fun x=>x)⟩
end Go.AI
namespace Go.Proofs.YtfcnbgmclfkfcaaGreat
open Go.AI Go.PN Go.ChangeShapes
section
variable {P : Program}
def Rdr (P:Program) (t:TypeId) {α:Type} (c:α→List CV) (B:α→Nat→Prop):Prop:=
 ∀(H:Type) (enc:TypeId×Value→H) (w:World) (fuel:Nat) (cs:List Value) (x:DataW H×List MemPlace),DataW.trod enc P w 0 (fun _=>true) true fuel t cs=some x→∃y,RepL (AllB w) w (c y) cs∧B y (Rows.uptoBulk x.1)
theorem rdr_word {t:TypeId} (ht:P.underlying t=some (.int .u32)):Rdr P t (fun n:Nat=>[.int .u32 n]) (fun n _=>n<4294967296):=fun H enc w fuel cs x h=>by
 obtain⟨n,rfl,rfl,hw⟩:=DataW.trod_int ht h
 have hb:0≤n∧n≤4294967295:=by simpa [Lit.wf,IntKind.min,IntKind.max,IntKind.signed,IntKind.bits] using hw
 refine⟨n.toNat,⟨?_,trivial⟩,by omega⟩
 show Value.int .u32 n=Value.int .u32 ((n.toNat:Nat):Int)
 rw [show((n.toNat:Nat):Int)=n from by omega]
theorem rdr_bool {t:TypeId} (ht:P.underlying t=some .bool):Rdr P t (fun b:Bool=>[.bool b]) (fun _ _=>True):=fun H enc w fuel cs x h=>by
 obtain⟨n,rfl,rfl⟩:=DataW.trod_bool ht h
 exact⟨n,⟨rfl,trivial⟩,trivial⟩
theorem bulk_mem {H:Type} {d:DataW H}:∀{l:List (DataW H)},d∈l→Rows.uptoBulk d≤Rows.uptoBulkAll l
 |x::r,h=>by
  simp only [Rows.uptoBulkAll]
  cases List.mem_cons.1 h with
  |inl e=>subst e;omega
  |inr e=>have:=bulk_mem e;omega
theorem bulk_one {H:Type} (d:DataW H):1≤Rows.uptoBulk d:=by
 cases d with
 |lit l=>cases l<;>simp [Rows.uptoBulk]
 |nil=>simp [Rows.uptoBulk]
 |ptr d=>simp [Rows.uptoBulk]
 |slice elems spare=>simp [Rows.uptoBulk]
 |agg parts=>simp [Rows.uptoBulk]
 |iface t d=>simp [Rows.uptoBulk]
 |map entries=>simp [Rows.uptoBulk]
 |held h=>simp [Rows.uptoBulk]
theorem bulk_len {H:Type}:∀(l:List (DataW H)),l.length≤Rows.uptoBulkAll l
 |[]=>by simp [Rows.uptoBulkAll]
 |x::r=>by have:=bulk_one x;have:=bulk_len r;simp only [Rows.uptoBulkAll,List.length_cons];omega
theorem rdr_slice {t e:TypeId} {α:Type} {c:α→List CV} {B:α→Nat→Prop} {s:Nat} (z:α) (tg:Bool) (ht:P.underlying t=some (.slice e)) (hs:P.cellsOf e=s) (hs0:0<s) (hB:∀y m n,B y m→m≤n→B y n) (hr:Rdr P e c B):
 Rdr P t (fun ys:List α=>[CV.row tg s ys.length (lf s c z ys)]) (fun ys n=>ys.length≤n∧∀y∈ys,B y n):=fun H enc w fuel cs x h=>by
 rcases DataW.trod_slice ht h with ⟨rfl,rfl⟩|⟨a,len,cap,elems,rest,n,rfl,rfl,rfl,_,hlc,_,hlen,hel,_,_⟩
 ·exact⟨[],⟨⟨none,0,rfl,Nat.le_refl _,fun h0=>by simp at h0⟩,trivial⟩,by simp,by simp⟩
 ·have key:∀i,∃y:α,i<len→∃d∈elems.map (·.1),B y (Rows.uptoBulk d)∧∀k,k<s→∃u,w.cell? (a.add (i*s+k))=some u∧RepC (AllB w) w (ofL (c y) k) u:=by
   intro i
   by_cases hi:i<len
   ·have h1:=hel i hi
    have h2:i<elems.length:=by omega
    rw [List.getElem?_eq_getElem h2,hs] at h1
    obtain⟨us,hus,htr⟩:=Option.bind_eq_some_iff.1 h1
    obtain⟨y,hy,hb⟩:=hr H enc w n us _ htr
    obtain⟨_,hul,hue⟩:=World.cells?_some hus
    refine⟨y,fun _=>⟨_,List.mem_map.2 ⟨_,List.getElem_mem h2,rfl⟩,hb,fun k hk=> ?_⟩⟩
    have hlen2:=hy.length
    obtain⟨u,hu,hru⟩:=hy.get k ((c y)[k]'om) (List.getElem?_eq_getElem om)
    refine⟨u,?_,by rw [ofL_get (c y) k _ (List.getElem?_eq_getElem om)];exact hru⟩
    rw [←add_add]
    exact(hue k hk).trans hu
   ·exact⟨z,fun h=>absurd h hi⟩
  obtain⟨g,hg⟩:∃g:Nat→α,∀i,i<len→∃d∈elems.map (·.1),B (g i) (Rows.uptoBulk d)∧∀k,k<s→∃u,w.cell? (a.add (i*s+k))=some u∧RepC (AllB w) w (ofL (c (g i)) k) u:=⟨fun i=>Classical.choose (key i),fun i=>Classical.choose_spec (key i)⟩
  have hbl:∀d∈elems.map (·.1),Rows.uptoBulk d≤Rows.uptoBulk (.slice (elems.map (·.1)) (rest.map (·.1))):=fun d hd=>by
   have:=bulk_mem hd
   simp only [Rows.uptoBulk];omega
  refine⟨(List.range len).map g,⟨⟨some a,cap,by simp,by simpa using hlc,fun h0=>⟨a,rfl,?_,fun j hj=> ?_⟩⟩,trivial⟩,?_,fun y hy=> ?_⟩
  ·simp only [List.length_map,List.length_range] at h0
   have hl0:0<len:=Nat.pos_of_ne_zero (fun e=>by subst e;simp at h0)
   obtain⟨_,_,_,hk⟩:=hg 0 hl0
   obtain⟨u,hu,_⟩:=hk 0 hs0
   have hb:=AI.block_add a (0*s+0)
   unfold World.cell? at hu
   rw [hb] at hu
   show a.block<w.heap.size
   by_cases hlt:a.block<w.heap.size
   ·exact hlt
   ·rw [Array.getElem?_eq_none om] at hu
    cases hu
  ·simp only [List.length_map,List.length_range] at hj
   have hi:j/s<len:=(Nat.div_lt_iff_lt_mul hs0).2 hj
   obtain⟨_,_,_,hk⟩:=hg (j/s) hi
   obtain⟨u,hu,hru⟩:=hk (j%s) (Nat.mod_lt _ hs0)
   refine⟨u,?_,?_⟩
   ·rw [Nat.mul_comm,Nat.div_add_mod] at hu;exact hu
   ·unfold lf
    rw [List.getD_eq_getElem?_getD]
    simpa [hi] using hru
  ·rw [List.length_map,List.length_range]
   have:=bulk_len (elems.map (·.1))
   simp only [Rows.uptoBulk]
   rw [List.length_map] at this
   omega
  ·obtain⟨i,hi,rfl⟩:=List.mem_map.1 hy
   obtain⟨d,hd,hb,_⟩:=hg i (List.mem_range.1 hi)
   exact hB _ _ _ hb (hbl d hd)
theorem rdr_struct3 {t:TypeId} {f0 f1 f2:Field} {α β γ:Type} {c0:α→List CV} {c1:β→List CV} {c2:γ→List CV} {B0:α→Nat→Prop} {B1:β→Nat→Prop} {B2:γ→Nat→Prop} {s0 s1 s2:Nat}
 (ht:P.underlying t=some (.struct #[f0,f1,f2])) (hz0:P.cellsOf f0.type=s0) (hz1:P.cellsOf f1.type=s1) (hz2:P.cellsOf f2.type=s2) (hz:P.cellsOf t=s0+s1+s2) (ho0:f0.offset=0) (ho1:f1.offset=s0) (ho2:f2.offset=s0+s1)
 (h0:Rdr P f0.type c0 B0) (h1:Rdr P f1.type c1 B1) (h2:Rdr P f2.type c2 B2) (hB0:∀y m n,B0 y m→m≤n→B0 y n) (hB1:∀y m n,B1 y m→m≤n→B1 y n) (hB2:∀y m n,B2 y m→m≤n→B2 y n):
 Rdr P t (fun y:α×β×γ=>c0 y.1++(c1 y.2.1++c2 y.2.2)) (fun y n=>B0 y.1 n∧B1 y.2.1 n∧B2 y.2.2 n):=fun H enc w fuel cs x h=>by
 obtain⟨xs,n,_,rfl,hl,hlen,hf⟩:=DataW.trod_struct ht h
 match xs,hlen with
 |[x0,x1,x2],_=>
  have g0:=hf 0 f0 rfl
  have g1:=hf 1 f1 rfl
  have g2:=hf 2 f2 rfl
  rw [ho0,hz0] at g0
  rw [ho1,hz1] at g1
  rw [ho2,hz2] at g2
  obtain⟨y0,r0,b0⟩:=h0 H enc w n _ x0 g0
  obtain⟨y1,r1,b1⟩:=h1 H enc w n _ x1 g1
  obtain⟨y2,r2,b2⟩:=h2 H enc w n _ x2 g2
  refine⟨(y0,y1,y2),?_,hB0 _ _ _ b0 ?_,hB1 _ _ _ b1 ?_,hB2 _ _ _ b2 ?_⟩
  ·have e:cs=(cs.drop 0).take s0++((cs.drop s0).take s1++(cs.drop (s0+s1)).take s2):=by
    rw [List.drop_zero]
    conv=>lhs;rw [←List.take_append_drop s0 cs]
    congr 1
    conv=>lhs;rw [←List.take_append_drop s1 (cs.drop s0)]
    congr 1
    rw [List.drop_drop,List.take_of_length_le]
    rw [List.length_drop];omega
   rw [e]
   exact r0.append (r1.append r2)
  ·simp only [Rows.uptoBulk,List.map_cons,List.map_nil,Rows.uptoBulkAll];omega
  ·simp only [Rows.uptoBulk,List.map_cons,List.map_nil,Rows.uptoBulkAll];omega
  ·simp only [Rows.uptoBulk,List.map_cons,List.map_nil,Rows.uptoBulkAll];omega
theorem Rdr.to {t:TypeId} {α β:Type} {c:α→List CV} {c':β→List CV} {B:α→Nat→Prop} {B':β→Nat→Prop} (hr:Rdr P t c B) (f:α→β) (hc:∀y,c' (f y)=c y) (hB:∀y n,B y n→B' (f y) n):Rdr P t c' B':=fun H enc w fuel cs x h=>by
 obtain⟨y,h1,h2⟩:=hr H enc w fuel cs x h
 exact⟨f y,by rw [hc];exact h1,hB _ _ h2⟩
end
end Go.Proofs.YtfcnbgmclfkfcaaGreat
namespace Go.PN
def RD.prob (r:RD):Bool:=r.valid&&decide (0≤r.q)&&decide (r.q≤1)
theorem sq_le_one {n d:Nat} (hd:d≠0):sq false n d≤1↔n≤d:=by
 unfold sq sgn
 simp only [Bool.false_eq_true,if_false]
 rw [Rat.mkRat_eq_div]
 have hd0:(0:Rat)<(d:Rat):=by
  have:((0:Nat):Rat)<(d:Rat):=Rat.natCast_lt_natCast.2 om
  exact this
 have hne:(d:Rat)≠0:=fun e=>by rw [e] at hd0;exact Rat.lt_irrefl hd0
 have hx:((n:Int):Rat)/(d:Rat)*(d:Rat)=(n:Rat):=by
  have h1:((n:Int):Rat)=(n:Rat):=rfl
  rw [h1,Rat.div_def,Rat.mul_assoc,Rat.inv_mul_cancel _ hne,Rat.mul_one]
 generalize ((n:Int):Rat)/(d:Rat)=x at hx
 constructor
 ·intro h
  have h1:=Rat.mul_le_mul_of_nonneg_right h (Rat.le_of_lt hd0)
  rw [hx,Rat.one_mul] at h1
  exact Rat.natCast_le_natCast.1 h1
 ·intro h
  have h1:(n:Rat)≤(d:Rat):=Rat.natCast_le_natCast.2 h
  rw [←hx] at h1
  refine Rat.not_lt.1 fun hlt=> ?_
  have h2:=Rat.mul_lt_mul_of_pos_right hlt hd0
  rw [Rat.one_mul] at h2
  exact absurd h1 (Rat.not_le.2 h2)
theorem prob_eq {r:RD} {L:Nat} (hw:r.wf L) (hv:r.valid=true):((!r.neg)&&decide (cmpN (val r.num) (val r.den)≤0))=(decide (0≤r.q)&&decide (r.q≤1)):=by
 cases hs:r.some with
 |false=>
  have hn:r.num.length=0:=by
   simp only [RD.some,hv,Bool.true_and,decide_eq_false_iff_not,ne_eq,Classical.not_not] at hs
   exact hs
  have hq:r.q=0:=by unfold RD.q RD.pn;simp [hs,sq_zero]
  have hv':=hv
  unfold RD.valid at hv'
  split at hv'
  ·rename_i h
   have h1:r.num=[]:=List.length_eq_zero_iff.1 h.1
   have h2:r.den=[]:=List.length_eq_zero_iff.1 h.2
   rw [hq,h1,h2]
   simp only [Bool.not_eq_true'] at hv'
   simp [hv',val,cmpN]
   decide
  ·simp [plainB,hn] at hv'
 |true=>
  obtain⟨h1,h2,h3,h4,h5⟩:=RD.some_spec hw hs
  have hq:r.q=sq r.neg (val r.num) (val r.den):=by unfold RD.q RD.ps RD.pn RD.pd;simp [hs]
  rw [hq]
  have hneg:=sq_lt (neg:=r.neg) h3 h4
  cases hb:r.neg with
  |true=>
   rw [hb] at hneg
   have:¬(0≤sq true (val r.num) (val r.den)):=Rat.not_le.2 (hneg.2 rfl)
   simp [this]
  |false=>
   rw [hb] at hneg
   have hge:0≤sq false (val r.num) (val r.den):=Rat.not_lt.1 fun h=>by cases hneg.1 h
   have hle:=sq_le_one (n:=val r.num) h4
   have hc:cmpN (val r.num) (val r.den)≤0↔val r.num≤val r.den:=by
    unfold cmpN
    split
    ·constructor<;>intro _<;>omega
    ·split<;>constructor<;>intro _<;>omega
   simp only [hge,decide_true,Bool.true_and,Bool.not_false,hle,hc]
end Go.PN
namespace Go.Proofs.YtfcnbgmclfkfcaaGreat
open Go.AI Go.PN
attribute [local irreducible] aw Fa Fh DrK
set_option maxHeartbeats 800000 in
theorem rprob_fa (r:RD) (hw:r.wf 1073741824):Fa Tryz.prog 99 [.agg (rdc r)] (.c (.bool r.prob)):=by
 have h1:=hw.2.2.1
 have h2:=hw.2.2.2
 refine fa_of_body Tryz.func99 rfl rfl (by simp [Tryz.ntmps99]) fun C hC=> ?_
 simp only [initS,Nat.reduceAdd]
 refine xG ?_
 refine xB fun g1 hn_g1=>?_
 refine yG hn_g1 ?_
 refine yC hn_g1 (rvalid_fa r (wf_mono hw ?_)) ?_
 ·omega
 refine yG hn_g1 ?_
 unfold RD.prob
 refine aw_split 5 (zE hn_g1) (fun hv=> ?_) (fun hv=> ?_)<;>refine yS hn_g1 ?_
 ·have hp:=prob_eq hw hv
  refine yG hn_g1 ?_
  refine aw_split 10 (zE hn_g1) (fun hn=> ?_) (fun hn=> ?_)<;>refine yS hn_g1 ?_
  ·refine yG hn_g1 ?_
   refine yC hn_g1 (cmp_fa _ _ hw.1 hw.2.1 ?_ ?_) ?_
   ·omega
   ·omega
   refine yGT hC hn_g1 ?_
   refine .one (.c (ler_bool ?_))
   rw [hv,Bool.true_and,←hp,hn,Bool.true_and]
  ·refine yGT hC hn_g1 ?_
   refine .one (.c (ler_bool ?_))
   rw [hv,Bool.true_and,←hp,hn,Bool.false_and]
 ·refine yGT hC hn_g1 ?_
  refine .one (.c (ler_bool ?_))
  rw [hv,Bool.false_and,Bool.false_and]
end Go.Proofs.YtfcnbgmclfkfcaaGreat
namespace Go.PN
open Go.AI
theorem andZ_nat (x y:Nat) (hx:x<9223372036854775808) (hy:y<9223372036854775808):andZ .i64 (x:Int) (y:Int)=((x&&&y:Nat):Int):=by
 rw [andZ_eq]
 show IntKind.i64.wrap (((BitVec.ofInt 64 (x:Int)&&&BitVec.ofInt 64 (y:Int)).toNat:Nat):Int)=_
 have:(BitVec.ofInt 64 (x:Int)&&&BitVec.ofInt 64 (y:Int)).toNat=x&&&y:=by
  rw [BitVec.toNat_and]
  have e1:∀z:Nat,z<9223372036854775808→(BitVec.ofInt 64 (z:Int)).toNat=z:=fun z hz=>by rw [BitVec.ofInt_natCast,BitVec.toNat_ofNat];omega
  rw [e1 x hx,e1 y hy]
 have hlt:x&&&y<9223372036854775808:=Nat.lt_of_le_of_lt Nat.and_le_left hx
 rw [this,IntKind.wrap_i64];omega
theorem orZ_nat (x y:Nat) (hx:x<9223372036854775808) (hy:y<9223372036854775808):orZ .i64 (x:Int) (y:Int)=((x|||y:Nat):Int):=by
 rw [orZ_eq]
 show IntKind.i64.wrap (((BitVec.ofInt 64 (x:Int)|||BitVec.ofInt 64 (y:Int)).toNat:Nat):Int)=_
 have:(BitVec.ofInt 64 (x:Int)|||BitVec.ofInt 64 (y:Int)).toNat=x|||y:=by
  rw [BitVec.toNat_or]
  have e1:∀z:Nat,z<9223372036854775808→(BitVec.ofInt 64 (z:Int)).toNat=z:=fun z hz=>by rw [BitVec.ofInt_natCast,BitVec.toNat_ofNat];omega
  rw [e1 x hx,e1 y hy]
 have hlt:x|||y<2^63:=Nat.or_lt_two_pow hx hy
 rw [this,IntKind.wrap_i64];omega
theorem and_one_nat (x:Nat) (hx:x<9223372036854775808):andZ .i64 (x:Int) 1=((x%2:Nat):Int):=by
 have:=andZ_nat x 1 hx om
 rw [Nat.and_one_is_mod] at this
 exact this
theorem shrZ_nat (x n:Nat) (hn:n≤64):shrZ .i64 (x:Int) (n:Int)=((x/2^n:Nat):Int):=by
 rw [shrZ_eq]
 have h1:min (n:Int).toNat IntKind.i64.bits=n:=by show min (n:Int).toNat 64=n;omega
 rw [h1,Int.fdiv_eq_ediv_of_nonneg _ (by exact Int.le_of_lt (Int.pow_pos om))]
 rw [Int.natCast_ediv,Int.natCast_pow];rfl
theorem shl_one (n:Nat) (hn:n<63):shlZ .i64 1 (n:Int)=((2^n:Nat):Int):=by
 rw [shlZ_eq]
 have h1:min (n:Int).toNat IntKind.i64.bits=n:=by show min (n:Int).toNat 64=n;omega
 have h2:2^n<9223372036854775808:=by
  have h3:2^n<2^63:=Nat.pow_lt_pow_right om hn
  have h4:(2:Nat)^63=9223372036854775808:=by decide
  rw [h4] at h3;exact h3
 rw [h1,Int.one_mul,wrap_inRange (k:=.i64)]
 ·rw [Int.natCast_pow];rfl
 ·simp only [inRange]
  have:((2:Int)^n)=((2^n:Nat):Int):=by rw [Int.natCast_pow];rfl
  rw [this]
  generalize 2^n=z at h2
  omega
theorem bit_eq (x n:Nat):(((x/2^n%2:Nat):Int)==1)=x.testBit n:=by
 rw [Nat.testBit_eq_decide_div_mod_eq,Bool.eq_iff_iff]
 simp only [beq_iff_eq,decide_eq_true_eq]
 omega
def wfac (y n i:Nat) (q:Rat):Rat:=(if y.testBit i then q else 1)*(if n.testBit i then 1-q else 1)
def wtTo (y n:Nat) (ps:List RD):Nat→Rat
 |0=>1
 |k+1=>wtTo y n ps k*wfac y n k (ps.getD k rd0).q
theorem fits_one:fits (1:Rat) 1:=⟨by simp,by simp⟩
theorem getD_wf {ps:List RD} {L:Nat} (h:∀r∈ps,r.wf L) (i:Nat):(ps.getD i rd0).wf L:=by
 rw [List.getD_eq_getElem?_getD]
 cases hi:ps[i]? with
 |none=>simp only [Option.getD_none,rd0];exact⟨by simp,by simp,by simp,by simp⟩
 |some r=>exact h r (List.mem_of_getElem? hi)
theorem fits_wt {y n:Nat} {ps:List RD} {L:Nat} (hL:1≤L) (h:∀r∈ps,r.wf L):∀k,fits (wtTo y n ps k) ((2*L+2)*k+1)
 |0=>by rw [Nat.mul_zero,Nat.zero_add];exact fits_one
 |k+1=>by
  have h1:=fits_wt (y:=y) (n:=n) hL h k
  have h2:=RD.fits (getD_wf h k) hL
  have h3:=fits_sub fits_one h2
  have h4:fits (wfac y n k (ps.getD k rd0).q) (2*L+2):=by
   unfold wfac
   refine fits_mono (fits_mul (L:=L) (M:=1+L+1) ?_ ?_) om
   ·split
    ·exact h2
    ·exact fits_mono fits_one hL
   ·split
    ·exact h3
    ·exact fits_mono fits_one om
  refine fits_mono (fits_mul h1 h4) ?_
  rw [Nat.mul_add];omega
end Go.PN
namespace Go.AI
theorem updF_ofL {xs bs:List CV} (h:xs.length=bs.length):updF (ofL xs) 0 bs=ofL bs:=by
 funext j
 by_cases hj:j<bs.length
 ·have:=updF_in bs (ofL xs) 0 j hj
  rw [Nat.zero_add] at this
  exact this
 ·rw [updF_out _ _ _ _ om,ofL_at,ofL_at,List.getElem?_eq_none om,List.getElem?_eq_none om]
@[go_sem ↓] theorem updF_1 (a b:CV):updF (ofL [a]) 0 [b]=ofL [b]:=updF_ofL rfl
@[go_sem ↓] theorem updF_2 (a b c d:CV):updF (ofL [a,b]) 0 [c,d]=ofL [c,d]:=updF_ofL rfl
@[go_sem ↓] theorem updF_3 (a b c x y z:CV):updF (ofL [a,b,c]) 0 [x,y,z]=ofL [x,y,z]:=updF_ofL rfl
end Go.AI
namespace Go.Proofs.YtfcnbgmclfkfcaaGreat
open Go.AI Go.PN
attribute [local irreducible] aw Fa Fh DrK
theorem one_wf' {L:Nat} (h:1≤L):(rd ((1:Int):Rat)).wf L:=rd_wf (fits_mono (L:=1) ⟨by simp,by simp⟩ h)
theorem cast1:((1:Int):Rat)=1:=rfl
end Go.Proofs.YtfcnbgmclfkfcaaGreat
namespace Go.AI
open Go.PN
section
variable {E : Env} {K : List It} {σ σ' : Sl} {h : Heap}
theorem aw_less {g n n':Nat} {ty:TypeId} {f f':Nat→CV} {h:Heap} (hn:n'≤n) (hf:∀j,j<n'→f j=f' j) (k:aw E K σ ((g,.cells ty n' f')::h)):aw E K σ ((g,.cells ty n f)::h):=fun a w s=>by
 refine k a w ⟨s.size,s.defers,s.slots,fun g' o' hm=> ?_,s.nodup,s.keys,s.frame⟩
 rcases List.mem_cons.1 hm with e|hm
 ·injection e with e1 e2
  subst e1 e2
  obtain⟨cs,hb,hc,hj⟩:=s.heap _ _ (List.mem_cons_self ..)
  exact⟨cs,hb,by omega,fun j hjl=>by rw [←hf j hjl];exact hj j om⟩
 ·exact s.heap g' o' (List.mem_cons_of_mem _ hm)
end
theorem rats_push {vs:List RD} {n:Nat} (hn:vs.length=n) (v:RD):∀j,j<(n+1)*3→appF (ratsF vs) (n*3) (ofL [.bool v.neg,ws true v.num,ws true v.den]) j=ratsF (vs++[v]) j:=lf_push (c:=fun r:RD=>[CV.bool r.neg,ws true r.num,ws true r.den]) hn v om
theorem le_gsr {pre:Heap} {og:Option Nat} {e n:Nat} {vs:List RD} (hog:og=none→n=0) (hn:∀g,og=some g→g∉pre.keys) (hl:vs.length=n):LeC (pre++gh og e (n*3) (ratsF vs)) (gs og 3 n) (rats false vs):=by
 subst hl
 exact le_gs hog hn (fun j _=>.refl _)
theorem ler_gsr {pre:Heap} {og:Option Nat} {e n:Nat} {t:Bool} {vs:List RD} (hog:og=none→n=0) (hn:∀g,og=some g→g∉pre.keys) (hl:vs.length=n):LeR (pre++gh og e (n*3) (ratsF vs)) (gs og 3 n) (rats t vs):=by
 subst hl
 exact ler_gs hog hn (lf_ler om fun x _ k hk=>by match k,hk with|0,_=>exact .bool _|1,_=>exact ler_ws|2,_=>exact ler_ws)
end Go.AI
namespace Go.PN
open Go.AI
def refRD (v:List RD) (r:Int):RD:=if r<2 then rd (r:Rat) else v.getD (r-2).toNat rd0
def nodeQ (p v:List RD) (n:DN):Rat:=(1-(p.getD n.v.toNat rd0).q)*(refRD v n.lo).q+(p.getD n.v.toNat rd0).q*(refRD v n.hi).q
def valsL (p:List RD):List DN→List RD→List RD
 |[],v=>v
 |n::ns,v=>valsL p ns (v++[rd (nodeQ p v n)])
structure NodeOk (m k:Nat) (n:DN):Prop where
 v0:0≤n.v
 v1:n.v<m
 l0:0≤n.lo
 l1:n.lo<k+2
 h0:0≤n.hi
 h1:n.hi<k+2
theorem ref_wf {v:List RD} {r:Int} {L:Nat} (hL:1≤L) (hv:∀x∈v,x.wf L) (h0:0≤r):(refRD v r).wf L:=by
 unfold refRD
 split
 ·have:r=0∨r=1:=by omega
  rcases this with rfl|rfl
  ·exact rd_wf (fits_mono (L:=1) ⟨by simp,by simp⟩ hL)
  ·exact rd_wf (fits_mono (L:=1) ⟨by simp,by simp⟩ hL)
 ·exact getD_wf hv _
end Go.PN
namespace Go.Proofs.YtfcnbgmclfkfcaaGreat
open Go.AI Go.PN
attribute [local irreducible] aw Fa Fh DrK
set_option maxHeartbeats 800000 in
theorem of_fa' (v:List RD) (r:Int) (h0:0≤r) (h1:r<v.length+2) (h2:v.length≤1099511627776):Fa Tryz.prog 86 [.c (rats false v),.c (.int .i64 r)] (.agg (rdc (refRD v r))):=by
 refine fa_of_body Tryz.func86 rfl rfl (by simp [Tryz.ntmps86]) fun C hC=> ?_
 simp only [initS,Nat.reduceAdd]
 refine xG ?_
 refine xA fun g4 hn_g4=>?_
 refine yG hn_g4 ?_
 refine yF hn_g4 (fun hb=>?_) fun hb=>?_
 ·have hb':=of_decide_eq_true hb
  refine yG hn_g4 ?_
  refine yC hn_g4 (rof_fa r ?_ ?_) ?_
  ·omega
  ·omega
  refine yGWSGT hC hn_g4 ?_
  exact ler_rd (by rw [refRD,if_pos hb'])
 ·have hb':=of_decide_eq_false hb
  refine yGWSGT hC hn_g4 ?_
  exact ler_rd (by rw [refRD,if_neg hb'])
abbrev dnc (n:DN):List CV:=[.int .i64 n.v,.int .i64 n.lo,.int .i64 n.hi]
set_option maxHeartbeats 1600000 in
theorem node_fa (n:DN) (p v:List RD) (L:Nat) (hL:1≤L) (hL2:L≤100000000) (hp:∀x∈p,x.wf L) (hv:∀x∈v,x.wf L) (hn:NodeOk p.length v.length n) (hvl:v.length≤1099511627776):
 Fa Tryz.prog 137 [.agg (dnc n),.c (rats false p),.c (rats false v)] (.agg (rdc (rd (nodeQ p v n)))):=by
 obtain⟨v0,v1,l0,l1,h0,h1⟩:=hn
 have w1:=getD_wf hp n.v.toNat
 have w2:=ref_wf hL hv l0
 have w3:=ref_wf hL hv h0
 have f1:=RD.fits w1 hL
 have f2:=RD.fits w2 hL
 have f3:=RD.fits w3 hL
 have f4:=fits_sub fits_one f1
 have f5:=fits_mul f4 f2
 have f6:=fits_mul f1 f3
 refine fa_of_body Tryz.func137 rfl rfl (by simp [Tryz.ntmps137]) fun C hC=> ?_
 simp only [initS,Nat.reduceAdd]
 refine xG ?_
 refine xB fun g3 hn_g3=>?_
 refine yA hn_g3 fun g6 hn_g6=>?_
 refine yG (oj hn_g3 hn_g6) ?_
 refine yA (oj hn_g3 hn_g6) fun g7 hn_g7=>?_
 have J1:=oj hn_g3 (oj hn_g6 hn_g7)
 refine yGWSG J1 ?_
 refine aw_dr 15 ty_mixed (by kernel_rfl) ?_
 refine yG J1 ?_
 refine yD J1 (rof_fa 1 ?_ ?_) ?_
 ·omega
 ·omega
 refine yG J1 ?_
 refine yD J1 (rsub_fa _ _ (one_wf' ?_) ?_) ?_
 ·omega
 ·exact wf_mono w1 om
 rw [rd_q,cast1]
 refine yG J1 ?_
 refine yD J1 (of_fa' v n.lo l0 ?_ hvl) ?_
 ·omega
 refine yG J1 ?_
 refine yD J1 (rmul_fa _ _ ?_ ?_) ?_
 ·exact rd_wf (fits_mono f4 om)
 ·exact wf_mono w2 om
 rw [rd_q]
 refine yG J1 ?_
 refine yD J1 (of_fa' v n.hi h0 ?_ hvl) ?_
 ·omega
 refine yG J1 ?_
 refine yD J1 (rmul_fa _ _ ?_ ?_) ?_
 ·exact wf_mono w1 om
 ·exact wf_mono w3 om
 refine yG J1 ?_
 refine yD J1 (radd_fa _ _ ?_ ?_) ?_
 ·exact rd_wf (fits_mono f5 om)
 ·exact rd_wf (fits_mono f6 om)
 rw [rd_q,rd_q]
 refine yGWSGT hC J1 ?_
 exact ler_rd rfl
theorem vals_take {p:List RD} {ns:List DN} {k:Nat} (hk:k<ns.length):valsL p (ns.take (k+1)) []=valsL p (ns.take k) []++[rd (nodeQ p (valsL p (ns.take k) []) (ns.getD k dn0))]:=by
 have key:∀(l m:List DN) (v:List RD),valsL p (l++m) v=valsL p m (valsL p l v):=by
  intro l
  induction l with
  |nil=>intro m v;rfl
  |cons a l ih=>intro m v;simp only [List.cons_append,valsL];exact ih m _
 rw [List.take_succ_eq_append_getElem hk,key]
 have:ns.getD k dn0=ns[k]:=by rw [List.getD_eq_getElem?_getD,List.getElem?_eq_getElem hk];rfl
 rw [this];rfl
theorem vals_len {p:List RD}:∀(ns:List DN) (v:List RD),(valsL p ns v).length=v.length+ns.length
 |[],v=>by simp [valsL]
 |n::ns,v=>by rw [valsL,vals_len ns];simp;omega
set_option maxHeartbeats 1600000 in
theorem values_fa (d:DG) (p:List RD) (L:Nat) (hL:1≤L) (hL2:L≤100000000) (hp:∀x∈p,x.wf L) (hv:∀k,k≤d.nodes.length→∀x∈valsL p (d.nodes.take k) [],x.wf L) (hn:∀i,i<d.nodes.length→NodeOk p.length i (d.nodes.getD i dn0)) (hnl:d.nodes.length≤10000):
 Fa Tryz.prog 87 [.agg (dgc false d),.c (rats false p)] (.c (rats true (valsL p d.nodes []))):=by
 refine fa_of_body Tryz.func87 rfl rfl (by simp [Tryz.ntmps87]) fun C hC=> ?_
 simp only [initS,Nat.reduceAdd]
 refine xG ?_
 refine xB fun g2 hn_g2=>?_
 refine yG hn_g2 ?_
 refine aw_make (n:=0) (c:=d.nodes.length) (size:=3) (z:=[.bool false,.nils,.nils]) rfl rfl rfl (zE hn_g2) (zE hn_g2) rfl om (zE hn_g2) (zE hn_g2) rfl rfl om om om fun g hg=> ?_
 refine yS hn_g2 ?_
 refine aw_less (n':=0) (f':=ratsF []) om (fun j hj=>by omega) ?_
 replace hg:=Heap.ne_of hg
 dsimp only [Heap.ne] at hg
 have J1:=oj hn_g2 hg
 refine yG J1 ?_
 refine aw_weak (σ':=[(1,.c (rats false p)),(5,.c (gs (some g) 3 0)),(13,.c (dns false d.nodes)),(14,.c (.int .i64 d.nodes.length)),(15,.c (.int .i64 0))]) (h':=gh (some g) 30 (0*3) (ratsF [])) (Sl.sub_le (zB J1)) (List.Sublist.cons_cons _ (List.nil_sublist _)) ?_
 refine aw_lp (fun x:Nat×Nat×List RD=>[(1,.c (rats false p)),(5,.c (gs (some x.1) 3 x.2.1)),(13,.c (dns false d.nodes)),(14,.c (.int .i64 d.nodes.length)),(15,.c (.int .i64 x.2.1))]) (fun x=>gh (some x.1) 30 (x.2.1*3) (ratsF x.2.2))
  (fun x=>x.2.1≤d.nodes.length∧x.2.2.length=x.2.1∧x.2.2=valsL p (d.nodes.take x.2.1) []) (fun x=>d.nodes.length-x.2.1) (g,0,[]) (zB J1) zZ ⟨Nat.zero_le _,rfl,by simp [valsL]⟩ ?_
 rintro ⟨g',k,vs⟩ ⟨hk,hvl,hvs⟩
 dsimp only at hk hvl hvs⊢
 refine yG J1 ?_
 refine yF J1 (fun hb=>?_) fun hb=>?_
 ·have hin:k<d.nodes.length:=dT hb
  have hvw:∀x∈vs,x.wf L:=by rw [hvs];exact hv k hk
  have hno:NodeOk p.length vs.length (d.nodes.getD k dn0):=by rw [hvl];exact hn k hin
  refine yG J1 ?_
  refine yA J1 fun g7 hn_g7=>?_
  have J2:=oj hn_g2 (oj hg hn_g7)
  refine yGWSG J2 ?_
  refine aw_callq (node_fa (d.nodes.getD k dn0) p vs L hL hL2 hp hvw hno om) rfl rfl rfl (by refine yS J2 ?_;exact⟨.agg (lel_refl _),.c (.refl _),.c (le_gsr (pre:=[(g7,_)]) some_ne (fun g e=>by cases e;simp only [Heap.keys,List.map_cons,List.map_nil,List.mem_singleton];exact(of_eq_false hn_g7.1.2)) hvl)⟩) ?_
  have J3:=oj hn_g2 (oj hg hn_g7)
  refine ySG J3 ?_
  refine aw_push (pre:=[(g7,.cells 145 3 (ofL (dnc (d.nodes.getD k dn0))))]) rfl rfl rfl rfl rfl rfl rfl (zE J3) (zE J3) (by rfl) om om (zE J3) om (by exact some_ne) (zE J3) (by rfl) (by rfl) (by first|rfl|simp only [Nat.mul_one,List.nil_append,List.cons_append]<;>rfl) (by unfold maxLen;omega) om (by exact rats_push hvl _) fun g1 hn_g1=> ?_
  replace hn_g1:=Heap.ne_of hn_g1
  first|dsimp only [Heap.ne,gh] at hn_g1|dsimp only [Heap.ne] at hn_g1|skip
  have J4:=oj hn_g2 (oj hg (oj hn_g7 hn_g1))
  refine ySG J4 ?_
  have e:=vals_take (p:=p) hin
  rw [←hvs] at e
  refine aw_stop ⟨(g1,k+1,vs++[rd (nodeQ p vs (d.nodes.getD k dn0))]),by dsimp only;omega,(zB J4),List.Sublist.cons _ (List.Sublist.refl _),by dsimp only;omega,by simp;omega,e.symm⟩
 ·have hin:k=d.nodes.length:=dF hb
  subst hin
  refine yGT hC J1 ?_
  rw [List.take_length] at hvs
  rw [←hvs]
  exact .one (.c (ler_gsr (pre:=[]) some_ne (fun _ _=>by simp [Heap.keys]) hvl))
end Go.Proofs.YtfcnbgmclfkfcaaGreat
namespace Go.PN
open Go.AI
def evalF (ns:List DN) (s:Nat):Nat→Int→Bool
 |0,r=>decide (r=1)
 |k+1,r=>if r≤1 then decide (r=1) else evalF ns s k (if s.testBit (ns.getD (r-2).toNat dn0).v.toNat then(ns.getD (r-2).toNat dn0).hi else(ns.getD (r-2).toNat dn0).lo)
def evalD (ns:List DN) (s:Nat) (r:Int):Bool:=evalF ns s r.toNat r
def NsOk (m:Nat) (ns:List DN):Prop:=∀i,i<ns.length→NodeOk m i (ns.getD i dn0)
def kid (ns:List DN) (s:Nat) (r:Int):Int:=if s.testBit (ns.getD (r-2).toNat dn0).v.toNat then(ns.getD (r-2).toNat dn0).hi else(ns.getD (r-2).toNat dn0).lo
theorem kid_lt {m:Nat} {ns:List DN} (h:NsOk m ns) {s:Nat} {r:Int} (h2:2≤r) (hr:r<ns.length+2):0≤kid ns s r∧kid ns s r<r:=by
 have:=h (r-2).toNat om
 obtain⟨_,_,l0,l1,h0,h1⟩:=this
 unfold kid
 split<;>omega
theorem evalF_fuel {m:Nat} {ns:List DN} (h:NsOk m ns) {s:Nat}:∀(k:Nat) (r:Int),0≤r→r<ns.length+2→r.toNat≤k→evalF ns s k r=evalF ns s r.toNat r
 |0,r,h0,_,hk=>by rw [show r.toNat=0 from by omega]
 |k+1,r,h0,hr,hk=>by
  by_cases h1:r≤1
  ·rw [evalF,if_pos h1]
   cases hrn:r.toNat with
   |zero=>rfl
   |succ j=>rw [evalF,if_pos h1]
  ·obtain⟨j,hj⟩:∃j,r.toNat=j+1:=⟨r.toNat-1,by omega⟩
   rw [hj,evalF,if_neg h1,evalF,if_neg h1]
   have hkid:=kid_lt h (s:=s) om hr
   show evalF ns s k (kid ns s r)=evalF ns s j (kid ns s r)
   rw [evalF_fuel h k _ hkid.1 om om,evalF_fuel h j _ hkid.1 om om]
termination_by k=>k
decreasing_by all_goals omega
theorem evalD_leaf {ns:List DN} {s:Nat} {r:Int} (h1:r≤1):evalD ns s r=decide (r=1):=by
 unfold evalD
 cases hrn:r.toNat with
 |zero=>rfl
 |succ j=>rw [evalF,if_pos h1]
theorem evalD_step {m:Nat} {ns:List DN} (h:NsOk m ns) {s:Nat} {r:Int} (h2:2≤r) (hr:r<ns.length+2):evalD ns s r=evalD ns s (kid ns s r):=by
 unfold evalD
 obtain⟨j,hj⟩:∃j,r.toNat=j+1:=⟨r.toNat-1,by omega⟩
 rw [hj,evalF,if_neg om]
 have hkid:=kid_lt h (s:=s) h2 hr
 show evalF ns s j (kid ns s r)=_
 exact evalF_fuel h j _ hkid.1 om om
def tabL (d:DG):List Bool:=(List.range (2^d.order.length)).map fun s=>evalD d.nodes s d.root
def stQ (ps:List RD) (s:Nat):Rat:=wtTo s (2^ps.length-1-s) ps ps.length
def sumQ (ps:List RD) (tb:List Bool):Nat→Rat
 |0=>0
 |k+1=>if tb.getD k false then sumQ ps tb k+stQ ps k else sumQ ps tb k
theorem fits_zero:fits (0:Rat) 1:=⟨by simp,by simp⟩
theorem fits_sum {ps:List RD} {tb:List Bool} {L:Nat} (hL:1≤L) (h:∀r∈ps,r.wf L):∀k,fits (sumQ ps tb k) (((2*L+2)*ps.length+2)*k+1)
 |0=>by rw [Nat.mul_zero,Nat.zero_add];exact fits_zero
 |k+1=>by
  have h1:=fits_sum (tb:=tb) hL h k
  unfold sumQ
  split
  ·refine fits_mono (fits_add h1 (fits_wt hL h _)) ?_
   rw [Nat.mul_add];omega
  ·refine fits_mono h1 ?_
   rw [Nat.mul_add];omega
end Go.PN
namespace Go.AI
section
variable {E : Env} {K : List It} {σ : Sl}
theorem aw_convR {g n:Nat} {ty:TypeId} {f f':Nat→CV} {h:Heap} (hf:∀j,j<n→∀S w u,RepC S w (f j) u→RepC S w (f' j) u) (k:aw E K σ ((g,.cells ty n f')::h)):aw E K σ ((g,.cells ty n f)::h):=fun a w s=>by
 refine k a w ⟨s.size,s.defers,s.slots,fun g' o' hm=> ?_,s.nodup,s.keys,s.frame⟩
 rcases List.mem_cons.1 hm with e|hm
 ·injection e with e1 e2
  subst e1 e2
  obtain⟨cs,hb,hc,hj⟩:=s.heap _ _ (List.mem_cons_self ..)
  exact⟨cs,hb,hc,fun j hjl=>by obtain⟨u,hu,hr⟩:=hj j hjl;exact⟨u,hu,hf j hjl _ _ _ hr⟩⟩
 ·exact s.heap g' o' (List.mem_cons_of_mem _ hm)
end
theorem repC_nil {S:Bool→Nat→Prop} {w:World} {u:Value} {t:Bool} {s:Nat} {f:Nat→CV} (h:RepC S w .nils u):RepC S w (.row t s 0 f) u:=by
 obtain⟨A,hv⟩:=h
 exact⟨A,0,hv,Nat.le_refl _,fun h0=>by simp at h0⟩
theorem is_push {zs:List Int} {n:Nat} (hn:zs.length=n) (x:Int):∀j,j<(n+1)*1→appF (isF zs) (n*1) (ofL [.int .i64 x]) j=isF (zs++[x]) j:=fun j hj=>by
 subst hn
 unfold appF
 by_cases h:j<zs.length*1
 ·rw [if_pos h]
  show CV.int .i64 (zs.getD j 0)=CV.int .i64 ((zs++[x]).getD j 0)
  rw [List.getD_eq_getElem?_getD,List.getD_eq_getElem?_getD,List.getElem?_append_left om]
 ·have:j=zs.length:=by omega
  subst this
  rw [if_neg h]
  show ofL [CV.int .i64 x] (zs.length-zs.length*1)=CV.int .i64 ((zs++[x]).getD zs.length 0)
  rw [Nat.mul_one,Nat.sub_self,List.getD_eq_getElem?_getD,List.getElem?_append_right (Nat.le_refl _),Nat.sub_self]
  rfl
end Go.AI
namespace Go.PN
def oscan (vars:Int) (seen:List Int):List Int→Int
 |[]=>0
 |x::xs=>if x<0∨vars≤x then 3 else if x∈seen then 6 else oscan vars (seen++[x]) xs
def ocode (o:List Int) (vars:Int):Int:=if vars<0∨24<vars then 3 else if(o.length:Int)≠vars then 11 else oscan vars [] o
def placeZ (l:List Int) (n:Int):Int:=if n∈l then(l.idxOf n:Int) else-1
theorem getDZ {xs:List Int} {i:Nat} (h:i<xs.length):xs.getD i 0=xs[i]:=by
 rw [List.getD_eq_getElem?_getD,List.getElem?_eq_getElem h];rfl
theorem oscan_step {vars:Int} {o:List Int} {i:Nat} (h:i<o.length):oscan vars (o.take i) (o.drop i)=if o.getD i 0<0∨vars≤o.getD i 0 then 3 else if o.getD i 0∈o.take i then 6 else oscan vars (o.take (i+1)) (o.drop (i+1)):=by
 rw [List.drop_eq_getElem_cons h,oscan,getDZ h,List.take_succ_eq_append_getElem h]
structure Perm0 (o:List Int):Prop where
 range:∀x∈o,0≤x∧x<o.length
 nodup:o.Nodup
theorem oscan_ok {vars:Int}:∀(o seen:List Int),oscan vars seen o=0→seen.Nodup→(∀x∈o,0≤x∧x<vars)∧(seen++o).Nodup
 |[],seen,_,hs=>⟨by simp,by simpa using hs⟩
 |x::o,seen,h,hs=>by
  rw [oscan] at h
  split at h
  ·cases h
  ·split at h
   ·cases h
   ·rename_i h1 h2
    have hn:(seen++[x]).Nodup:=by
     rw [List.nodup_append]
     exact⟨hs,by simp,fun a ha b hb e=>h2 (by simp only [List.mem_singleton] at hb;rw [←hb,←e];exact ha)⟩
    obtain⟨h3,h4⟩:=oscan_ok o (seen++[x]) h hn
    refine⟨fun y hy=> ?_,by simpa using h4⟩
    rcases List.mem_cons.1 hy with rfl|hy
    ·omega
    ·exact h3 y hy
theorem ocode_ok {o:List Int} (h:ocode o o.length=0):Perm0 o∧o.length≤24:=by
 unfold ocode at h
 split at h
 ·cases h
 ·rename_i h1
  rw [if_neg (by simp)] at h
  obtain⟨h2,h3⟩:=oscan_ok o [] h (by simp)
  exact⟨⟨h2,by simpa using h3⟩,by omega⟩
theorem nodup_le:∀{l m:List Int},l.Nodup→(∀x∈l,x∈m)→l.length≤m.length
 |[],m,_,_=>by simp
 |a::l,m,hn,hs=>by
  simp only [List.nodup_cons] at hn
  have ha:=hs a (by simp)
  have:=nodup_le (l:=l) (m:=m.erase a) hn.2 fun x hx=>(List.mem_erase_of_ne (fun e=>hn.1 (by rw [←e];exact hx))).2 (hs x (by simp [hx]))
  rw [List.length_erase_of_mem ha] at this
  have:0<m.length:=List.length_pos_of_mem ha
  simp only [List.length_cons]
  omega
theorem Perm0.all {o:List Int} (h:Perm0 o) {j:Nat} (hj:j<o.length):(j:Int)∈o:=by
 by_cases hm:(j:Int)∈o
 ·exact hm
 ·exfalso
  have:=nodup_le (l:=(j:Int)::o) (m:=(List.range o.length).map (fun k:Nat=>(k:Int))) (by simp only [List.nodup_cons];exact⟨hm,h.nodup⟩) (fun x hx=>by
   rw [List.mem_map]
   rcases List.mem_cons.1 hx with rfl|hx
   ·exact⟨j,by simpa using hj,rfl⟩
   ·obtain⟨h1,h2⟩:=h.range x hx
    exact⟨x.toNat,by simp;omega,by omega⟩)
  simp at this
  omega
theorem place_get {o:List Int} (hn:o.Nodup) {k:Nat} (hk:k<o.length):placeZ o (o.getD k 0)=k:=by
 unfold placeZ
 rw [getDZ hk,if_pos (List.getElem_mem hk)]
 congr 1
 exact hn.idxOf_getElem k hk
def placesL (o:List Int):List Int:=(List.range o.length).map fun j:Nat=>placeZ o (j:Int)
theorem placesL_len (o:List Int):(placesL o).length=o.length:=by simp [placesL]
theorem placesL_get {o:List Int} {j:Nat} (hj:j<o.length):(placesL o).getD j 0=placeZ o j:=by
 rw [getDZ (by rw [placesL_len];exact hj)]
 simp [placesL]
theorem places_end {o zs:List Int} (h:Perm0 o) (hl:zs.length=o.length) (hz:∀k,k<o.length→zs.getD (o.getD k 0).toNat 0=k):zs=placesL o:=by
 apply List.ext_getElem (by rw [placesL_len];exact hl)
 intro j h1 h2
 rw [←getDZ h1,←getDZ h2,placesL_get om]
 have hm:=h.all (j:=j) om
 obtain⟨k,hk,e⟩:=List.mem_iff_getElem.1 hm
 have h3:=hz k hk
 rw [getDZ hk,e] at h3
 have h4:=place_get h.nodup hk
 rw [getDZ hk,e] at h4
 rw [h4,←h3];simp
end Go.PN
