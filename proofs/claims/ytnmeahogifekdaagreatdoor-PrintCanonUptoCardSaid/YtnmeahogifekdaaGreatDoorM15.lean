/- Parts of one proof, laid by a program. -/
import Derived.Test.YtnmeahogifekdaaGreatDoorM00
import Derived.Test.YtnmeahogifekdaaGreatDoorM08
import Derived.Test.YtnmeahogifekdaaGreatDoorRows
import Derived.WalkKit
import Derived.ProofKit
import Derived.OpenShut
import Derived.JoinedCond
import Derived.Carry
import Derived.ShutString
set_option linter.unusedSimpArgs false
set_option linter.unusedVariables false
set_option maxRecDepth 100000
set_option maxHeartbeats 12800000
namespace Go.Proofs.YtnmeahogifekdaaGreatDoor
open Go.AI Go.PN Go.ChangeShapes
section
variable {P : Program}
theorem rdr_int {t:TypeId} {k:IntKind} (ht:P.underlying t=some (.int k)):Rdr P t (fun n:Int=>[.int k n]) (fun n _=>(Lit.int k n).wf=true):=fun H enc w fuel cs x h=>by
 obtain⟨n,rfl,rfl,hw⟩:=DataW.trod_int ht h
 exact⟨n,⟨rfl,trivial⟩,hw⟩
theorem rdr_u32w {t:TypeId} (ht:P.underlying t=some (.int .u32)):Rdr P t (fun n:Nat=>[.int .u32 n]) (fun n _=>n<4294967296):=fun H enc w fuel cs x h=>by
 obtain⟨n,rfl,rfl,hw⟩:=DataW.trod_int ht h
 have hb:0≤n∧n≤4294967295:=by simpa [Lit.wf,IntKind.min,IntKind.max,IntKind.signed,IntKind.bits] using hw
 refine⟨n.toNat,⟨?_,trivial⟩,by omega⟩
 show Value.int .u32 n=Value.int .u32 ((n.toNat:Nat):Int)
 rw [show((n.toNat:Nat):Int)=n from by omega]
theorem rdr_bool {t:TypeId} (ht:P.underlying t=some .bool):Rdr P t (fun b:Bool=>[.bool b]) (fun _ _=>True):=fun H enc w fuel cs x h=>by
 obtain⟨n,rfl,rfl⟩:=DataW.trod_bool ht h
 exact⟨n,⟨rfl,trivial⟩,trivial⟩
theorem bulk_mem {H:Type} {d:DataW H}:∀{l:List (DataW H)},d∈l→Rows.uptoBulk d≤Rows.uptoBulkAll l
 |x::r,h=>by
  simp only [Rows.uptoBulkAll]
  cases List.mem_cons.1 h with
  |inl e=>subst e;omega
  |inr e=>have:=bulk_mem e;omega
theorem bulk_one {H:Type} (d:DataW H):1≤Rows.uptoBulk d:=by
 cases d with
 |lit l=>cases l<;>simp [Rows.uptoBulk]
 |nil=>simp [Rows.uptoBulk]
 |ptr d=>simp [Rows.uptoBulk]
 |slice elems spare=>simp [Rows.uptoBulk]
 |agg parts=>simp [Rows.uptoBulk]
 |iface t d=>simp [Rows.uptoBulk]
 |map entries=>simp [Rows.uptoBulk]
 |held h=>simp [Rows.uptoBulk]
theorem bulk_len {H:Type}:∀(l:List (DataW H)),l.length≤Rows.uptoBulkAll l
 |[]=>by simp [Rows.uptoBulkAll]
 |x::r=>by have:=bulk_one x;have:=bulk_len r;simp only [Rows.uptoBulkAll,List.length_cons];omega
theorem rdr_slice {t e:TypeId} {α:Type} {c:α→List CV} {B:α→Nat→Prop} {s:Nat} (z:α) (tg:Bool) (ht:P.underlying t=some (.slice e)) (hs:P.cellsOf e=s) (hs0:0<s) (hB:∀y m n,B y m→m≤n→B y n) (hr:Rdr P e c B):
  Rdr P t (fun ys:List α=>[CV.row tg s ys.length (lf s c z ys)]) (fun ys n=>ys.length≤n∧∀y∈ys,B y n):=fun H enc w fuel cs x h=>by
 rcases DataW.trod_slice ht h with ⟨rfl,rfl⟩|⟨a,len,cap,elems,rest,n,rfl,rfl,rfl,_,hlc,_,hlen,hel,_,_⟩
 ·exact⟨[],⟨⟨none,0,rfl,Nat.le_refl _,fun h0=>by simp at h0⟩,trivial⟩,by simp,by simp⟩
 ·have key:∀i,∃y:α,i<len→∃d∈elems.map (·.1),B y (Rows.uptoBulk d)∧∀k,k<s→∃u,w.cell? (a.add (i*s+k))=some u∧RepC (AllB w) w (ofL (c y) k) u:=by
   intro i
   by_cases hi:i<len
   ·have h1:=hel i hi
    have h2:i<elems.length:=by omega
    rw [List.getElem?_eq_getElem h2,hs] at h1
    obtain⟨us,hus,htr⟩:=Option.bind_eq_some_iff.1 h1
    obtain⟨y,hy,hb⟩:=hr H enc w n us _ htr
    obtain⟨_,hul,hue⟩:=World.cells?_some hus
    refine⟨y,fun _=>⟨_,List.mem_map.2 ⟨_,List.getElem_mem h2,rfl⟩,hb,fun k hk=> ?_⟩⟩
    have hlen2:=hy.length
    obtain⟨u,hu,hru⟩:=hy.get k ((c y)[k]'om) (List.getElem?_eq_getElem om)
    refine⟨u,?_,by rw [ofL_get (c y) k _ (List.getElem?_eq_getElem om)];exact hru⟩
    rw [←add_add]
    exact(hue k hk).trans hu
   ·exact⟨z,fun h=>absurd h hi⟩
  obtain⟨g,hg⟩:∃g:Nat→α,∀i,i<len→∃d∈elems.map (·.1),B (g i) (Rows.uptoBulk d)∧∀k,k<s→∃u,w.cell? (a.add (i*s+k))=some u∧RepC (AllB w) w (ofL (c (g i)) k) u:=⟨fun i=>Classical.choose (key i),fun i=>Classical.choose_spec (key i)⟩
  have hbl:∀d∈elems.map (·.1),Rows.uptoBulk d≤Rows.uptoBulk (.slice (elems.map (·.1)) (rest.map (·.1))):=fun d hd=>by
   have:=bulk_mem hd
   simp only [Rows.uptoBulk];omega
  refine⟨(List.range len).map g,⟨⟨some a,cap,by simp,by simpa using hlc,fun h0=>⟨a,rfl,?_,fun j hj=> ?_⟩⟩,trivial⟩,?_,fun y hy=> ?_⟩
  ·simp only [List.length_map,List.length_range] at h0
   have hl0:0<len:=Nat.pos_of_ne_zero (fun e=>by subst e;simp at h0)
   obtain⟨_,_,_,hk⟩:=hg 0 hl0
   obtain⟨u,hu,_⟩:=hk 0 hs0
   have hb:=AI.block_add a (0*s+0)
   unfold World.cell? at hu
   rw [hb] at hu
   show a.block<w.heap.size
   by_cases hlt:a.block<w.heap.size
   ·exact hlt
   ·rw [Array.getElem?_eq_none om] at hu
    cases hu
  ·simp only [List.length_map,List.length_range] at hj
   have hi:j/s<len:=(Nat.div_lt_iff_lt_mul hs0).2 hj
   obtain⟨_,_,_,hk⟩:=hg (j/s) hi
   obtain⟨u,hu,hru⟩:=hk (j%s) (Nat.mod_lt _ hs0)
   refine⟨u,?_,?_⟩
   ·rw [Nat.mul_comm,Nat.div_add_mod] at hu;exact hu
   ·unfold lf
    rw [List.getD_eq_getElem?_getD]
    simpa [hi] using hru
  ·rw [List.length_map,List.length_range]
   have:=bulk_len (elems.map (·.1))
   simp only [Rows.uptoBulk]
   rw [List.length_map] at this
   omega
  ·obtain⟨i,hi,rfl⟩:=List.mem_map.1 hy
   obtain⟨d,hd,hb,_⟩:=hg i (List.mem_range.1 hi)
   exact hB _ _ _ hb (hbl d hd)
theorem Rdr.to {t:TypeId} {α β:Type} {c:α→List CV} {c':β→List CV} {B:α→Nat→Prop} {B':β→Nat→Prop} (hr:Rdr P t c B) (f:α→β) (hc:∀y,c' (f y)=c y) (hB:∀y n,B y n→B' (f y) n):Rdr P t c' B':=fun H enc w fuel cs x h=>by
 obtain⟨y,h1,h2⟩:=hr H enc w fuel cs x h
 exact⟨f y,by rw [hc];exact h1,hB _ _ h2⟩
end
end Go.Proofs.YtnmeahogifekdaaGreatDoor
namespace Go.Proofs.YtnmeahogifekdaaGreatDoor
open Go.AI Go.PN Go.ChangeShapes Go.WideShapes Go.RowKit
section
variable {H : Type} {enc : TypeId × Value → H} {P : Program}
theorem arg_agg {α:Type} {c:α→List CV} {B:α→Nat→Prop} {t:TypeId} {fs:Array Field} (hr:Rdr P t c B) (ht:P.underlying t=some (.struct fs)) {W:World} {base:Nat} {v:Value} {d:DataW H} {p:List MemPlace} (ho:Value.okWide P W .any base t v) (h:DataW.Trod enc P W 0 (fun _=>true) true t v d p):
  ∃y,Rep0 (AllB W) W (.agg (c y)) v∧B y (Rows.uptoBulk d):=by
 obtain⟨cs,rfl,_⟩:=okWide_struct ht ho
 obtain⟨fuel,hf⟩:=h
 obtain⟨y,h1,h2⟩:=hr H enc W fuel _ _ hf
 exact⟨y,⟨cs.toList,by simp,h1⟩,h2⟩
end
end Go.Proofs.YtnmeahogifekdaaGreatDoor
namespace Go.PN
open Go.AI
def shortB (r:RD):Bool:=decide (r.num.length≤40)&&decide (r.den.length≤40)
def fewG (x:GtD):Bool:=decide (x.inputs.length≤40)&&shortB x.dorm
def fewB (l:List GtD):Bool:=l.all fewG&&decide (l.length≤100)
def lightE (x:EvD):Bool:=shortB x.p&&shortB x.fail&&shortB x.rep
def lightP (x:PgD):Bool:=fewB x.gates
def lightR (x:GrD):Bool:=decide (x.members.length≤60)&&decide (x.factors.length≤60)&&x.factors.all shortB
def lightH (x:PhD):Bool:=decide (x.values.length≤60)&&x.values.all fun v=>shortB v.p
def lightB (m:MdD):Bool:=(decide (m.events.length≤60)&&decide (m.houses.length≤60)&&decide (m.pages.length≤30)&&decide (m.groups.length≤30)&&decide (m.phases.length≤30)&&fewB m.gates)&&(m.events.all lightE&&(m.pages.all lightP&&(m.groups.all lightR&&m.phases.all lightH)))
theorem short_o {n:Nat} {r:RD} (h:shortB r=true) (hu:RdU n r):RdOk r:=by
 unfold shortB at h
 simp only [Bool.and_eq_true,decide_eq_true_eq] at h
 exact⟨hu.1,hu.2.1,by omega,by omega⟩
theorem few_o {n:Nat} {l:List GtD} (h:fewB l=true) (hu:GsU n l) (hn:n≤1048576):l.length≤NG∧∀g∈l,GtO g:=by
 refine⟨Nat.le_trans hu.1 hn,fun g hg=> ?_⟩
 unfold fewB at h
 rw [Bool.and_eq_true,List.all_eq_true] at h
 have h1:=h.1 g hg
 unfold fewG at h1
 rw [Bool.and_eq_true] at h1
 have u:=hu.2 g hg
 exact⟨Nat.le_trans u.1 hn,short_o h1.2 u.2.2.2.2,Nat.le_trans u.2.2.2.1.1 hn,fun i hi=>Nat.le_succ_of_le (Nat.le_trans (u.2.2.2.1.2 i hi) hn)⟩
theorem light_o {n:Nat} {m:MdD} (h:lightB m=true) (hu:MdU n m) (hn:n≤1048576):MdO m:=by
 unfold lightB at h
 simp only [Bool.and_eq_true] at h
 obtain⟨⟨_,h1⟩,h2,h3,h4,h5⟩:=h
 refine⟨Nat.le_trans hu.nm hn,Nat.le_succ_of_le (Nat.le_trans hu.tp hn),⟨Nat.le_trans hu.ev.1 hn,fun x hx=> ?_⟩,⟨Nat.le_trans hu.hs.1 hn,fun x hx=>Nat.le_trans (hu.hs.2 x hx) hn⟩,few_o h1 hu.gt hn,⟨Nat.le_trans hu.pg.1 hn,fun x hx=> ?_⟩,⟨Nat.le_trans hu.gr.1 hn,fun x hx=> ?_⟩,⟨Nat.le_trans hu.ph.1 hn,fun x hx=> ?_⟩⟩
 ·have a:=List.all_eq_true.1 h2 x hx
  unfold lightE at a
  simp only [Bool.and_eq_true] at a
  obtain⟨u1,u2,u3,u4,_⟩:=hu.ev.2 x hx
  exact⟨Nat.le_trans u1 hn,short_o a.1.1 u2,short_o a.1.2 u3,short_o a.2 u4⟩
 ·have a:=List.all_eq_true.1 h3 x hx
  obtain⟨u1,u2,u3⟩:=hu.pg.2 x hx
  exact⟨Nat.le_trans u1 hn,Nat.le_succ_of_le (Nat.le_trans u2 hn),few_o a u3 hn⟩
 ·have a:=List.all_eq_true.1 h4 x hx
  unfold lightR at a
  rw [Bool.and_eq_true,List.all_eq_true] at a
  obtain⟨u1,_,u2,u3⟩:=hu.gr.2 x hx
  exact⟨Nat.le_trans u1 hn,Nat.le_trans u2.1 hn,fun i hi=>Nat.le_trans (u2.2 i hi) hn,Nat.le_trans u3.1 hn,fun r hr=>short_o (a.2 r hr) (u3.2 r hr)⟩
 ·have a:=List.all_eq_true.1 h5 x hx
  unfold lightH at a
  rw [Bool.and_eq_true,List.all_eq_true] at a
  obtain⟨u1,u2,u3,u4⟩:=hu.ph.2 x hx
  exact⟨Nat.le_trans u1 hn,Nat.le_succ_of_le (Nat.le_trans u2 hn),Nat.le_trans u3 hn,fun v hv=>⟨Nat.le_trans (u4 v hv).1 hn,short_o (a.2 v hv) (u4 v hv).2⟩⟩
end Go.PN
namespace Go.Proofs.YtnmeahogifekdaaGreatDoor
open Go.AI Go.PN Go.ChangeShapes Go.WideShapes Go.RowKit
def RdrS (P:Program) (fs:List Field) (off T:Nat) {α:Type} (c:α→List CV) (B:α→Nat→Prop):Prop:=
 ∀(H:Type) (enc:TypeId×Value→H) (w:World) (n:Nat) (cs:List Value) (xs:List (DataW H×List MemPlace)),cs.length=T→xs.length=fs.length→(∀(i:Nat) (f:Field),fs[i]?=some f→DataW.trod enc P w 0 (fun _=>true) true n f.type ((cs.drop f.offset).take (P.cellsOf f.type))=xs[i]?)→∃y,RepL (AllB w) w (c y) (cs.drop off)∧∀m,Rows.uptoBulkAll (xs.map (·.1))≤m→B y m
theorem rdrS_nil {P:Program} {T:Nat}:RdrS P [] T T (fun _:Unit=>[]) (fun _ _=>True):=fun H enc w n cs xs hl _ _=>⟨(),by rw [List.drop_of_length_le om];trivial,fun _ _=>trivial⟩
theorem rdrS_cons {P:Program} {f:Field} {fs:List Field} {off T:Nat} {α β:Type} {c0:α→List CV} {c1:β→List CV} {B0:α→Nat→Prop} {B1:β→Nat→Prop} (s:Nat) (hz:P.cellsOf f.type=s) (ho:f.offset=off) (h0:Rdr P f.type c0 B0) (hB0:∀y m n,B0 y m→m≤n→B0 y n) (hr:RdrS P fs (off+s) T c1 B1):
  RdrS P (f::fs) off T (fun y:α×β=>c0 y.1++c1 y.2) (fun y n=>B0 y.1 n∧B1 y.2 n):=fun H enc w n cs xs hl hx hf=>by
 match xs,hx with
 |x0::xs,hx=>
  have g0:=hf 0 f rfl
  rw [ho,hz] at g0
  obtain⟨y0,r0,b0⟩:=h0 H enc w n _ x0 g0
  obtain⟨y1,r1,b1⟩:=hr H enc w n cs xs hl (by simpa using hx) fun i f' hi=>by have:=hf (i+1) f' (by simpa using hi);simpa using this
  refine⟨(y0,y1),?_,fun m hm=> ?_⟩
  ·have e:cs.drop off=(cs.drop off).take s++cs.drop (off+s):=by
    conv=>lhs;rw [←List.take_append_drop s (cs.drop off)]
    rw [List.drop_drop]
   rw [e]
   exact r0.append r1
  ·simp only [List.map_cons,Rows.uptoBulkAll] at hm
   exact⟨hB0 _ _ _ b0 om,b1 m om⟩
theorem rdr_structN {P:Program} {t:TypeId} {fs:List Field} {T:Nat} {α:Type} {c:α→List CV} {B:α→Nat→Prop} (ht:P.underlying t=some (.struct fs.toArray)) (hz:P.cellsOf t=T) (h:RdrS P fs 0 T c B):Rdr P t c B:=fun H enc w fuel cs x hx=>by
 obtain⟨xs,n,_,rfl,hl,hlen,hf⟩:=DataW.trod_struct ht hx
 obtain⟨y,r,b⟩:=h H enc w n cs xs (hl.trans hz) (by simpa using hlen) (fun i f hi=>hf i f (by simpa using hi))
 exact⟨y,by simpa using r,b _ (by simp only [Rows.uptoBulk];omega)⟩
theorem i64_r {x:Int} (h:(Lit.int .i64 x).wf=true): -9223372036854775808≤x∧x<9223372036854775808:=by
 have hb: -9223372036854775808≤x∧x≤9223372036854775807:=by simpa [Lit.wf,IntKind.min,IntKind.max,IntKind.signed,IntKind.bits] using h
 omega
theorem rdrM_int:Rdr Tryz.prog 3 (fun n:Int=>[.int .i64 n]) (fun x _=> -9223372036854775808≤x∧x<9223372036854775808):=(rdr_int Tryz.underlying3).to id (fun _=>rfl) fun _ _ h=>i64_r h
theorem rdrM_str:Rdr Tryz.prog 9 (fun l:BS=>[.str (sB l)]) (fun l n=>l.length≤n):=(rdr_str Tryz.underlying9).to id (fun _=>rfl) fun _ _ h=>Nat.le_of_succ_le h
theorem rdrM_bool:Rdr Tryz.prog 4 (fun b:Bool=>[.bool b]) (fun _ _=>True):=rdr_bool Tryz.underlying4
theorem wordsM_mono {xs:List Nat}:∀(m n:Nat),xs.length≤m∧(∀x∈xs,x<4294967296)→m≤n→xs.length≤n∧∀x∈xs,x<4294967296:=fun _ _ h hm=>⟨Nat.le_trans h.1 hm,h.2⟩
theorem rdrM_words:Rdr Tryz.prog 45 (fun xs:List Nat=>[ws true xs]) (fun xs n=>xs.length≤n∧∀x∈xs,x<4294967296):=
 (rdr_slice (0:Nat) true Tryz.underlying45 (s:=1) (by kernel_rfl) om (fun _ _ _ h _=>h) (rdr_u32w Tryz.underlying165)).to id (fun ys=>by
  show [CV.row true 1 ys.length _]=[CV.row true 1 ys.length _]
  congr 2
  funext j
  show _=ofL [CV.int .u32 ((ys.getD (j/1) 0:Nat):Int)] (j%1)
  rw [Nat.div_one,Nat.mod_one]
  rfl) (fun _ _ h=>h)
theorem tt_mono {α:Type}:∀(y:α) (m n:Nat),True→m≤n→True:=fun _ _ _ h _=>h
theorem i64_mono:∀(y:Int) (m n:Nat),(-9223372036854775808≤y∧y<9223372036854775808)→m≤n→(-9223372036854775808≤y∧y<9223372036854775808):=fun _ _ _ h _=>h
theorem len_mono {α:Type}:∀(y:List α) (m n:Nat),y.length≤m→m≤n→y.length≤n:=fun _ _ _ h hm=>Nat.le_trans h hm
theorem rdrM_rat:Rdr Tryz.prog 47 (fun r:RD=>rdc r) (fun r n=>RdU n r):=
 (rdr_structN Tryz.underlying47 (T:=3) (by kernel_rfl) (rdrS_cons 1 (by kernel_rfl) rfl rdrM_bool tt_mono (rdrS_cons 1 (by kernel_rfl) rfl rdrM_words (fun _=>wordsM_mono) (rdrS_cons 1 (by kernel_rfl) rfl rdrM_words (fun _=>wordsM_mono) rdrS_nil)))).to (fun y=>⟨y.1,y.2.1,y.2.2.1⟩) (fun _=>rfl) (fun _ _ h=>⟨h.2.1.2,h.2.2.1.2,h.2.1.1,h.2.2.1.1⟩)
theorem rdrM_strs:Rdr Tryz.prog 52 (fun xs:List BS=>[strs true xs]) (fun xs n=>InU n xs):=
 (rdr_slice (B:=fun(y:BS) n=>y.length≤n) ([]:BS) true Tryz.underlying52 (s:=1) (by kernel_rfl) om len_mono rdrM_str).to id (fun _=>rfl) (fun _ _ h=>h)
theorem rdrM_rats:Rdr Tryz.prog 53 (fun xs:List RD=>[rats true xs]) (fun xs n=>RsU n xs):=
 (rdr_slice (B:=fun(y:RD) n=>RdU n y) rd0 true Tryz.underlying53 (s:=3) (by kernel_rfl) om (fun _ _ _ h hm=>RdU.mono h hm) rdrM_rat).to id (fun _=>rfl) (fun _ _ h=>h)
theorem rdrM_event:Rdr Tryz.prog 49 (fun x:EvD=>evc x) (fun x n=>EvU n x):=
 (rdr_structN Tryz.underlying49 (T:=11) (by kernel_rfl) (rdrS_cons 1 (by kernel_rfl) rfl rdrM_str len_mono (rdrS_cons 3 (by kernel_rfl) rfl rdrM_rat (fun _ _ _ h hm=>RdU.mono h hm) (rdrS_cons 3 (by kernel_rfl) rfl rdrM_rat (fun _ _ _ h hm=>RdU.mono h hm) (rdrS_cons 3 (by kernel_rfl) rfl rdrM_rat (fun _ _ _ h hm=>RdU.mono h hm) (rdrS_cons 1 (by kernel_rfl) rfl rdrM_int i64_mono rdrS_nil)))))).to (fun y=>⟨y.1,y.2.1,y.2.2.1,y.2.2.2.1,y.2.2.2.2.1⟩) (fun _=>rfl) (fun _ _ h=>⟨h.1,h.2.1,h.2.2.1,h.2.2.2.1,h.2.2.2.2.1⟩)
theorem rdrM_house:Rdr Tryz.prog 51 (fun x:HsD=>hsc x) (fun x n=>HsU n x):=
 (rdr_structN Tryz.underlying51 (T:=2) (by kernel_rfl) (rdrS_cons 1 (by kernel_rfl) rfl rdrM_str len_mono (rdrS_cons 1 (by kernel_rfl) rfl rdrM_bool tt_mono rdrS_nil))).to (fun y=>⟨y.1,y.2.1⟩) (fun _=>rfl) (fun _ _ h=>h.1)
theorem rdrM_gate:Rdr Tryz.prog 60 (fun x:GtD=>gtc x) (fun x n=>GtU n x):=
 (rdr_structN Tryz.underlying60 (T:=7) (by kernel_rfl) (rdrS_cons 1 (by kernel_rfl) rfl rdrM_str len_mono (rdrS_cons 1 (by kernel_rfl) rfl rdrM_int i64_mono (rdrS_cons 1 (by kernel_rfl) rfl rdrM_int i64_mono (rdrS_cons 1 (by kernel_rfl) rfl rdrM_strs (fun _ _ _ h hm=>InU.mono h hm) (rdrS_cons 3 (by kernel_rfl) rfl rdrM_rat (fun _ _ _ h hm=>RdU.mono h hm) rdrS_nil)))))).to (fun y=>⟨y.1,y.2.1,y.2.2.1,y.2.2.2.1,y.2.2.2.2.1⟩) (fun _=>rfl) (fun _ _ h=>⟨h.1,h.2.1,h.2.2.1,h.2.2.2.1,h.2.2.2.2.1⟩)
theorem rdrM_gates:Rdr Tryz.prog 24 (fun xs:List GtD=>[gts true xs]) (fun xs n=>GsU n xs):=
 (rdr_slice (B:=fun(y:GtD) n=>GtU n y) gt0 true Tryz.underlying24 (s:=7) (by kernel_rfl) om (fun _ _ _ h hm=>GtU.mono h hm) rdrM_gate).to id (fun _=>rfl) (fun _ _ h=>h)
theorem rdrM_page:Rdr Tryz.prog 57 (fun x:PgD=>pgc x) (fun x n=>PgU n x):=
 (rdr_structN Tryz.underlying57 (T:=3) (by kernel_rfl) (rdrS_cons 1 (by kernel_rfl) rfl rdrM_str len_mono (rdrS_cons 1 (by kernel_rfl) rfl rdrM_str len_mono (rdrS_cons 1 (by kernel_rfl) rfl rdrM_gates (fun _ _ _ h hm=>GsU.mono h hm) rdrS_nil)))).to (fun y=>⟨y.1,y.2.1,y.2.2.1⟩) (fun _=>rfl) (fun _ _ h=>⟨h.1,h.2.1,h.2.2.1⟩)
theorem rdrM_group:Rdr Tryz.prog 55 (fun x:GrD=>grc x) (fun x n=>GrU n x):=
 (rdr_structN Tryz.underlying55 (T:=4) (by kernel_rfl) (rdrS_cons 1 (by kernel_rfl) rfl rdrM_str len_mono (rdrS_cons 1 (by kernel_rfl) rfl rdrM_int i64_mono (rdrS_cons 1 (by kernel_rfl) rfl rdrM_strs (fun _ _ _ h hm=>InU.mono h hm) (rdrS_cons 1 (by kernel_rfl) rfl rdrM_rats (fun _ _ _ h hm=>RsU.mono h hm) rdrS_nil))))).to (fun y=>⟨y.1,y.2.1,y.2.2.1,y.2.2.2.1⟩) (fun _=>rfl) (fun _ _ h=>⟨h.1,h.2.1,h.2.2.1,h.2.2.2.1⟩)
theorem rdrM_value:Rdr Tryz.prog 68 (fun x:VlD=>vlc x) (fun x n=>VlU n x):=
 (rdr_structN Tryz.underlying68 (T:=4) (by kernel_rfl) (rdrS_cons 1 (by kernel_rfl) rfl rdrM_str len_mono (rdrS_cons 3 (by kernel_rfl) rfl rdrM_rat (fun _ _ _ h hm=>RdU.mono h hm) rdrS_nil))).to (fun y=>⟨y.1,y.2.1⟩) (fun _=>rfl) (fun _ _ h=>⟨h.1,h.2.1⟩)
theorem rdrM_values:Rdr Tryz.prog 64 (fun xs:List VlD=>[vls true xs]) (fun xs n=>xs.length≤n∧∀x∈xs,VlU n x):=
 (rdr_slice (B:=fun(y:VlD) n=>VlU n y) vl0 true Tryz.underlying64 (s:=4) (by kernel_rfl) om (fun _ _ _ h hm=>VlU.mono h hm) rdrM_value).to id (fun _=>rfl) (fun _ _ h=>h)
theorem rdrM_phase:Rdr Tryz.prog 66 (fun x:PhD=>phc x) (fun x n=>PhU n x):=
 (rdr_structN Tryz.underlying66 (T:=3) (by kernel_rfl) (rdrS_cons 1 (by kernel_rfl) rfl rdrM_str len_mono (rdrS_cons 1 (by kernel_rfl) rfl rdrM_str len_mono (rdrS_cons 1 (by kernel_rfl) rfl rdrM_values (fun _ _ _ h hm=>⟨Nat.le_trans h.1 hm,fun x hx=>(h.2 x hx).mono hm⟩) rdrS_nil)))).to (fun y=>⟨y.1,y.2.1,y.2.2.1⟩) (fun _=>rfl) (fun _ _ h=>⟨h.1,h.2.1,h.2.2.1.1,h.2.2.1.2⟩)
theorem all_mono {α:Type} {U:Nat→α→Prop} (hU:∀{m n x},U m x→m≤n→U n x):∀(y:List α) (m n:Nat),(y.length≤m∧∀x∈y,U m x)→m≤n→(y.length≤n∧∀x∈y,U n x):=fun _ _ _ h hm=>⟨Nat.le_trans h.1 hm,fun x hx=>hU (h.2 x hx) hm⟩
theorem rdrM_events:Rdr Tryz.prog 22 (fun xs:List EvD=>[evs true xs]) (fun xs n=>xs.length≤n∧∀x∈xs,EvU n x):=
 (rdr_slice (B:=fun(y:EvD) n=>EvU n y) ev0 true Tryz.underlying22 (s:=11) (by kernel_rfl) om (fun _ _ _ h hm=>EvU.mono h hm) rdrM_event).to id (fun _=>rfl) (fun _ _ h=>h)
theorem rdrM_houses:Rdr Tryz.prog 23 (fun xs:List HsD=>[hss true xs]) (fun xs n=>xs.length≤n∧∀x∈xs,HsU n x):=
 (rdr_slice (B:=fun(y:HsD) n=>HsU n y) hs0 true Tryz.underlying23 (s:=2) (by kernel_rfl) om (fun _ _ _ h hm=>HsU.mono h hm) rdrM_house).to id (fun _=>rfl) (fun _ _ h=>h)
theorem rdrM_pages:Rdr Tryz.prog 25 (fun xs:List PgD=>[pgs true xs]) (fun xs n=>xs.length≤n∧∀x∈xs,PgU n x):=
 (rdr_slice (B:=fun(y:PgD) n=>PgU n y) pg0 true Tryz.underlying25 (s:=3) (by kernel_rfl) om (fun _ _ _ h hm=>PgU.mono h hm) rdrM_page).to id (fun _=>rfl) (fun _ _ h=>h)
theorem rdrM_groups:Rdr Tryz.prog 26 (fun xs:List GrD=>[grs true xs]) (fun xs n=>xs.length≤n∧∀x∈xs,GrU n x):=
 (rdr_slice (B:=fun(y:GrD) n=>GrU n y) gr0 true Tryz.underlying26 (s:=4) (by kernel_rfl) om (fun _ _ _ h hm=>GrU.mono h hm) rdrM_group).to id (fun _=>rfl) (fun _ _ h=>h)
theorem rdrM_phases:Rdr Tryz.prog 27 (fun xs:List PhD=>[phs true xs]) (fun xs n=>xs.length≤n∧∀x∈xs,PhU n x):=
 (rdr_slice (B:=fun(y:PhD) n=>PhU n y) ph0 true Tryz.underlying27 (s:=3) (by kernel_rfl) om (fun _ _ _ h hm=>PhU.mono h hm) rdrM_phase).to id (fun _=>rfl) (fun _ _ h=>h)
theorem rdrM_model:Rdr Tryz.prog 29 (fun x:MdD=>mdc true x) (fun x n=>MdU n x):=
 (rdr_structN Tryz.underlying29 (T:=8) (by kernel_rfl) (rdrS_cons 1 (by kernel_rfl) rfl rdrM_str len_mono (rdrS_cons 1 (by kernel_rfl) rfl rdrM_str len_mono (rdrS_cons 1 (by kernel_rfl) rfl rdrM_events (all_mono EvU.mono) (rdrS_cons 1 (by kernel_rfl) rfl rdrM_houses (all_mono HsU.mono) (rdrS_cons 1 (by kernel_rfl) rfl rdrM_gates (fun _ _ _ h hm=>GsU.mono h hm) (rdrS_cons 1 (by kernel_rfl) rfl rdrM_pages (all_mono PgU.mono) (rdrS_cons 1 (by kernel_rfl) rfl rdrM_groups (all_mono GrU.mono) (rdrS_cons 1 (by kernel_rfl) rfl rdrM_phases (all_mono PhU.mono) rdrS_nil))))))))).to (fun y=>⟨y.1,y.2.1,y.2.2.1,y.2.2.2.1,y.2.2.2.2.1,y.2.2.2.2.2.1,y.2.2.2.2.2.2.1,y.2.2.2.2.2.2.2.1⟩) (fun _=>rfl) (fun _ _ h=>⟨h.1,h.2.1,h.2.2.1,h.2.2.2.1,h.2.2.2.2.1,h.2.2.2.2.2.1,h.2.2.2.2.2.2.1,h.2.2.2.2.2.2.2.1⟩)
end Go.Proofs.YtnmeahogifekdaaGreatDoor
namespace Go.PN
open Go.AI
theorem all_f {α:Type} {p:α→Bool} {l:List α} {d:α} {j:Nat} (hj:j<l.length) (h:p (l.getD j d)=false):l.all p=false:=by
 refine Bool.of_not_eq_true fun e=> ?_
 have:=List.all_eq_true.1 e (l.getD j d) (by rw [List.getD_eq_getElem?_getD,List.getElem?_eq_getElem hj];exact List.getElem_mem _)
 rw [h] at this;cases this
theorem all_t {α:Type} {p:α→Bool} {l:List α} {d:α} (h:∀j,j<l.length→p (l.getD j d)=true):l.all p=true:=by
 refine List.all_eq_true.2 fun x hx=> ?_
 obtain⟨j,hj,rfl⟩:=List.getElem_of_mem hx
 have:=h j hj
 rwa [List.getD_eq_getElem?_getD,List.getElem?_eq_getElem hj] at this
theorem all_iff {α:Type} {p:α→Bool} {l:List α} (d:α):l.all p=true↔∀j,j<l.length→p (l.getD j d)=true:=
 ⟨fun h j hj=>Bool.of_not_eq_false fun e=>(by rw [all_f hj e] at h;cases h),all_t⟩
def LightP (m:MdD):Prop:=m.events.length≤60∧m.houses.length≤60∧m.pages.length≤30∧m.groups.length≤30∧m.phases.length≤30∧fewB m.gates=true∧(∀j,j<m.events.length→lightE (m.events.getD j ev0)=true)∧(∀j,j<m.pages.length→fewB (m.pages.getD j pg0).gates=true)∧(∀j,j<m.groups.length→lightR (m.groups.getD j gr0)=true)∧(∀j,j<m.phases.length→lightH (m.phases.getD j ph0)=true)
theorem light_iff (m:MdD):lightB m=true↔LightP m:=by
 unfold lightB LightP
 rw [←all_iff (p:=lightE) ev0,←all_iff (p:=lightR) gr0,←all_iff (p:=lightH) ph0]
 rw [show(∀j,j<m.pages.length→fewB (m.pages.getD j pg0).gates=true)↔m.pages.all lightP=true from(all_iff (p:=lightP) pg0).symm]
 simp only [Bool.and_eq_true,decide_eq_true_eq,and_assoc]
theorem light_ff {m:MdD} (h:¬LightP m):false=lightB m:=(Bool.of_not_eq_true fun e=>h ((light_iff m).1 e)).symm
theorem light_tt {m:MdD} (h:LightP m):true=lightB m:=((light_iff m).2 h).symm
theorem few_ff {l:List GtD} {j:Nat} (hj:j<l.length) (h:fewG (l.getD j gt0)=false):false=fewB l:=by
 unfold fewB
 rw [all_f hj h];rfl
theorem few_tt {l:List GtD} (h:∀j,j<l.length→fewG (l.getD j gt0)=true):decide (l.length≤100)=fewB l:=by
 unfold fewB
 rw [all_t h];rfl
theorem lightR_ff {x:GrD} {j:Nat} (hj:j<x.factors.length) (h:shortB (x.factors.getD j rd0)=false):lightR x=false:=by
 unfold lightR
 rw [all_f hj h,Bool.and_false]
theorem lightR_tt {x:GrD} (h1:x.members.length≤60) (h2:x.factors.length≤60) (h:∀j,j<x.factors.length→shortB (x.factors.getD j rd0)=true):lightR x=true:=by
 unfold lightR
 rw [all_t h,decide_eq_true h1,decide_eq_true h2];rfl
theorem lightH_ff {x:PhD} {j:Nat} (hj:j<x.values.length) (h:shortB (x.values.getD j vl0).p=false):lightH x=false:=by
 unfold lightH
 rw [all_f (p:=fun v:VlD=>shortB v.p) hj h,Bool.and_false]
theorem lightH_tt {x:PhD} (h1:x.values.length≤60) (h:∀j,j<x.values.length→shortB (x.values.getD j vl0).p=true):lightH x=true:=by
 unfold lightH
 rw [all_t (p:=fun v:VlD=>shortB v.p) h,decide_eq_true h1];rfl
theorem rd0_u (n:Nat):RdU n rd0:=RD.wf.mono (a:=0) ⟨fun _ h=>(by cases h),fun _ h=>(by cases h),Nat.le_refl _,Nat.le_refl _⟩ (Nat.zero_le n)
theorem ev0_u (n:Nat):EvU n ev0:=⟨Nat.zero_le _,rd0_u n,rd0_u n,rd0_u n,by decide,by decide⟩
theorem gt0_u (n:Nat):GtU n gt0:=⟨Nat.zero_le _,by decide,by decide,⟨Nat.zero_le _,fun _ h=>(by cases h)⟩,rd0_u n⟩
theorem pg0_u (n:Nat):PgU n pg0:=⟨Nat.zero_le _,Nat.zero_le _,Nat.zero_le _,fun _ h=>by cases h⟩
theorem gr0_u (n:Nat):GrU n gr0:=⟨Nat.zero_le _,by decide,⟨Nat.zero_le _,fun _ h=>(by cases h)⟩,Nat.zero_le _,fun _ h=>(by cases h)⟩
theorem vl0_u (n:Nat):VlU n vl0:=⟨Nat.zero_le _,rd0_u n⟩
theorem ph0_u (n:Nat):PhU n ph0:=⟨Nat.zero_le _,Nat.zero_le _,Nat.zero_le _,fun _ h=>by cases h⟩
end Go.PN
namespace Go.Proofs.YtnmeahogifekdaaGreatDoor
open Go.AI Go.PN
attribute [local irreducible] aw Fa Fh DrK
theorem short_fa (r:RD) {n:Nat} (hu:RdU n r) (hn:n≤1048576):Fa Tryz.prog 19 [.agg (rdc r)] (.c (.bool (shortB r))):=by
 have l1:r.num.length≤1099511627776:=Nat.le_trans hu.2.2.1 (Nat.le_trans hn (by decide))
 have l2:r.den.length≤1099511627776:=Nat.le_trans hu.2.2.2 (Nat.le_trans hn (by decide))
 have hX:shortB r=(decide (r.num.length≤40)&&decide (r.den.length≤40)):=rfl
 refine fa_of_body Tryz.func19 rfl rfl (by simp [Tryz.ntmps19]) fun C hC=> ?_
 simp only [initS,Nat.reduceAdd]
 repeat' first|refine yA1 o0 ?_|refine zW o0 ?_|refine yP o0 ?_|refine yN o0 ?_|refine zC o0 (fun hb=>?_) fun hb=>?_|refine zG o0 (fun hb=>?_) fun hb=>?_|refine zD o0 (fun hb=>?_) fun hb=>?_
 refine xB fun g1 hn_g1=>?_
 repeat' first|refine yA1 hn_g1 ?_|refine zW hn_g1 ?_|refine yP hn_g1 ?_|refine yN hn_g1 ?_|refine zC hn_g1 (fun hb=>?_) fun hb=>?_|refine zG hn_g1 (fun hb=>?_) fun hb=>?_|refine zD hn_g1 (fun hb=>?_) fun hb=>?_
 all_goals
  refine yT hC hn_g1 ?_
  exact .one (.c (ler_bool (by rw [hX];first|(simp_all;done)|(simp_all;intros;omega))))
theorem few_fa (l:List GtD) {n:Nat} (hu:GsU n l) (hn:n≤1048576):Fa Tryz.prog 18 [.c (gts true l)] (.c (.bool (fewB l))):=by
 have l1:l.length≤1099511627776:=Nat.le_trans hu.1 (Nat.le_trans hn (by decide))
 have hg:∀i,GtU n (l.getD i gt0):=fun i=>getD_all hu.2 (gt0_u n) i
 refine fa_of_body Tryz.func18 rfl rfl (by simp [Tryz.ntmps18]) fun C hC=> ?_
 simp only [initS,Nat.reduceAdd]
 repeat' first|refine yA1 o0 ?_|refine zW o0 ?_|refine yP o0 ?_|refine yN o0 ?_|refine zC o0 (fun hb=>?_) fun hb=>?_|refine zG o0 (fun hb=>?_) fun hb=>?_|refine zD o0 (fun hb=>?_) fun hb=>?_
 refine aw_lp (fun i:Nat=>[(0,.c (gts true l)),(5,.c (gts true l)),(6,.c (.int .i64 l.length)),(7,.c (.int .i64 i))]) (fun _=>[]) (fun i=>i≤l.length∧∀j,j<i→fewG (l.getD j gt0)=true) (fun i=>l.length-i) 0 eB zZ ⟨Nat.zero_le _,fun _ h=>absurd h (Nat.not_lt_zero _)⟩ ?_
 rintro i ⟨hi,hs⟩
 repeat' first|refine yA1 o0 ?_|refine zW o0 ?_|refine yP o0 ?_|refine yN o0 ?_|refine zC o0 (fun hb=>?_) fun hb=>?_|refine zG o0 (fun hb=>?_) fun hb=>?_|refine zD o0 (fun hb=>?_) fun hb=>?_
 ·have hi':=hb
  have hgi:=hg i
  have f1:=short_fa (l.getD i gt0).dorm hgi.2.2.2.2 hn
  have hff:=few_ff hi'
  have hst:=fun h:fewG (l.getD i gt0)=true=>(show∀j,j<i+1→fewG (l.getD j gt0)=true from fun j hj=>by
   rcases Nat.lt_succ_iff_lt_or_eq.1 hj with h1|h1
   ·exact hs j h1
   ·rw [h1];exact h)
  have l2:(l.getD i gt0).inputs.length≤1099511627776:=Nat.le_trans hgi.2.2.2.1.1 (Nat.le_trans hn (by decide))
  have hX:fewG (l.getD i gt0)=(decide ((l.getD i gt0).inputs.length≤40)&&shortB (l.getD i gt0).dorm):=rfl
  clear hb
  refine xA fun g4 hn_g4=>?_
  generalize l.getD i gt0=x at*
  repeat' first|refine yA1 hn_g4 ?_|(refine yC2 hn_g4 (f1) ?_)|(refine yD2 hn_g4 (f1) ?_)|refine zW hn_g4 ?_|refine yP hn_g4 ?_|refine yN hn_g4 ?_|refine zC hn_g4 (fun hb=>?_) fun hb=>?_|refine zG hn_g4 (fun hb=>?_) fun hb=>?_|refine zD hn_g4 (fun hb=>?_) fun hb=>?_
  all_goals first
   |(refine yT hC hn_g4 ?_
     exact .one (.c (ler_bool (hff (by rw [hX];simp_all<;>(intros;omega)))))
     done)
   |(refine aw_stop ⟨i+1,?_⟩
     have ht3:=hst (by rw [hX];simp_all)
     and_intros
     all_goals first|rfl|exact List.sublist_cons_self _ _|exact List.Sublist.refl _|exact True.intro|exact ht3|omega)
 ·have ht:=few_tt (l:=l) fun j hj=>hs j om
  refine xT hC ?_
  exact .one (.c (ler_bool (by rw [←ht])))
end Go.Proofs.YtnmeahogifekdaaGreatDoor
namespace Go.Proofs.YtnmeahogifekdaaGreatDoor
open Go.AI Go.PN
theorem lt_step {p:Nat→Prop} {i:Nat} (hs:∀j,j<i→p j) (h:p i):∀j,j<i+1→p j:=fun j hj=>by
 rcases Nat.lt_succ_iff_lt_or_eq.1 hj with h1|h1
 ·exact hs j h1
 ·rw [h1];exact h
theorem no_lt {p:Nat→Prop}:∀j,j<0→p j:=fun _ h=>absurd h (Nat.not_lt_zero _)
attribute [local irreducible] aw Fa Fh DrK
theorem light_fa (m:MdD) {n:Nat} (hu:MdU n m) (hn:n≤1048576):Fa Tryz.prog 8 [.agg (mdc true m)] (.c (.bool (lightB m))):=by
 have big:∀{k:Nat},k≤n→k≤1099511627776:=fun h=>Nat.le_trans h (Nat.le_trans hn (by decide))
 have l1:=big hu.ev.1
 have l2:=big hu.hs.1
 have l3:=big hu.pg.1
 have l4:=big hu.gr.1
 have l5:=big hu.ph.1
 have f1:=few_fa m.gates hu.gt hn
 have hF:¬LightP m→false=lightB m:=light_ff
 have hT:LightP m→true=lightB m:=light_tt
 have hLP:LightP m↔LightP m:=Iff.rfl
 conv at hLP=>rhs;unfold LightP
 generalize lightB m=X at*
 refine fa_of_body Tryz.func8 rfl rfl (by simp [Tryz.ntmps8]) fun C hC=> ?_
 simp only [initS,Nat.reduceAdd]
 repeat' first|refine zV o0 ?_|refine zH o0 (fun hb=>?_) fun hb=>?_|fail
 refine xB fun g1 hn_g1=>?_
 repeat' first|refine zV hn_g1 ?_|(refine yC2 hn_g1 (f1) ?_)|(refine yD2 hn_g1 (f1) ?_)|refine zH hn_g1 (fun hb=>?_) fun hb=>?_|fail
 all_goals try (first
  |(refine yT hC hn_g1 ?_
    refine .one (.c (ler_bool (hF fun h=> ?_)))
    obtain⟨c1,c2,c3,c4,c5,c6,_⟩:=hLP.1 h
    first|omega|(exfalso;simp_all;done)
    done))
 have b6:fewB m.gates=true:=by simpa using hb
 clear hb f1
 refine aw_lp (fun i:Nat=>[(1,.c (.optr g1 0)),(50,.c (evs true m.events)),(51,.c (.int .i64 m.events.length)),(52,.c (.int .i64 i))]) (fun _=>[(g1,.cells 29 8 (ofL (mdc true m)))]) (fun i=>i≤m.events.length∧∀j,j<i→lightE (m.events.getD j ev0)=true) (fun i=>m.events.length-i) 0 (zB hn_g1) zZ ⟨Nat.zero_le _,no_lt⟩ ?_
 rintro i ⟨hi,hs⟩
 repeat' first|refine zV hn_g1 ?_|refine zH hn_g1 (fun hb=>?_) fun hb=>?_|fail
 ·have hi':=hb
  have hq:LightP m→lightE (m.events.getD i ev0)=true:=fun h=>(hLP.1 h).2.2.2.2.2.2.1 i hi'
  have hst:=lt_step (p:=fun j=>lightE (m.events.getD j ev0)=true) (i:=i) hs
  have hu1:=getD_all hu.ev.2 (ev0_u n) i
  have s1:=short_fa _ hu1.2.1 hn
  have s2:=short_fa _ hu1.2.2.1 hn
  have s3:=short_fa _ hu1.2.2.2.1 hn
  clear hb
  refine yA hn_g1 fun g4 hn_g4=>?_
  generalize hv:m.events.getD i ev0=x at*
  have hX:lightE x=(shortB x.p&&shortB x.fail&&shortB x.rep):=rfl
  all_goals try(have Z:=(oj hn_g1 hn_g4);(repeat' first|refine zV Z ?_|(refine yC2 Z (s1) ?_)|(refine yD2 Z (s1) ?_)|(refine yC2 Z (s2) ?_)|(refine yD2 Z (s2) ?_)|(refine yC2 Z (s3) ?_)|(refine yD2 Z (s3) ?_)|refine zH Z (fun hb=>?_) fun hb=>?_|fail);all_goals clear Z)
  all_goals first
   |(refine yT hC (oj hn_g1 hn_g4) ?_
     refine .one (.c (ler_bool (hF fun h=> ?_)))
     have h2:=hq h
     clear hLP hT hF hs hq hst hv s1 s2 s3 h
     rw [hX] at h2
     simp_all
     done)
   |(refine aw_stop ⟨i+1,?_⟩
     have ht3:=hst (by rw [hX];clear hLP hT hF hs hq hst hv s1 s2 s3;simp_all)
     and_intros
     all_goals first|rfl|exact List.sublist_cons_self _ _|exact List.Sublist.refl _|exact True.intro|exact ht3|omega)
 have e7:∀j,j<m.events.length→lightE (m.events.getD j ev0)=true:=fun j hj=>hs j om
 clear hs hi hb
 refine aw_lp (fun i:Nat=>[(1,.c (.optr g1 0)),(74,.c (pgs true m.pages)),(75,.c (.int .i64 m.pages.length)),(76,.c (.int .i64 i))]) (fun _=>[(g1,.cells 29 8 (ofL (mdc true m)))]) (fun i=>i≤m.pages.length∧∀j,j<i→fewB (m.pages.getD j pg0).gates=true) (fun i=>m.pages.length-i) 0 (zB hn_g1) zZ ⟨Nat.zero_le _,no_lt⟩ ?_
 rintro i ⟨hi,hs⟩
 repeat' first|refine zV hn_g1 ?_|refine zH hn_g1 (fun hb=>?_) fun hb=>?_|fail
 ·have hi':=hb
  have hq:LightP m→fewB (m.pages.getD i pg0).gates=true:=fun h=>(hLP.1 h).2.2.2.2.2.2.2.1 i hi'
  have hst:=lt_step (p:=fun j=>fewB (m.pages.getD j pg0).gates=true) (i:=i) hs
  have hu1:=getD_all hu.pg.2 (pg0_u n) i
  have s1:=few_fa _ hu1.2.2 hn
  clear hb
  refine yA hn_g1 fun g6 hn_g6=>?_
  generalize hv:m.pages.getD i pg0=x at*
  all_goals try(have Z:=(oj hn_g1 hn_g6);(repeat' first|refine zV Z ?_|(refine yC2 Z (s1) ?_)|(refine yD2 Z (s1) ?_)|refine zH Z (fun hb=>?_) fun hb=>?_|fail);all_goals clear Z)
  all_goals first
   |(refine yT hC (oj hn_g1 hn_g6) ?_
     refine .one (.c (ler_bool (hF fun h=> ?_)))
     have h2:=hq h
     clear hLP hT hF hs hq hst hv s1 h
     simp_all
     done)
   |(refine aw_stop ⟨i+1,?_⟩
     have ht3:=hst (by clear hLP hT hF hs hq hst hv s1;simp_all)
     and_intros
     all_goals first|rfl|exact List.sublist_cons_self _ _|exact List.Sublist.refl _|exact True.intro|exact ht3|omega)
 have e8:∀j,j<m.pages.length→fewB (m.pages.getD j pg0).gates=true:=fun j hj=>hs j om
 clear hs hi hb
 refine aw_lp (fun i:Nat=>[(1,.c (.optr g1 0)),(86,.c (grs true m.groups)),(87,.c (.int .i64 m.groups.length)),(88,.c (.int .i64 i))]) (fun _=>[(g1,.cells 29 8 (ofL (mdc true m)))]) (fun i=>i≤m.groups.length∧∀j,j<i→lightR (m.groups.getD j gr0)=true) (fun i=>m.groups.length-i) 0 (zB hn_g1) zZ ⟨Nat.zero_le _,no_lt⟩ ?_
 rintro i ⟨hi,hs⟩
 repeat' first|refine zV hn_g1 ?_|refine zH hn_g1 (fun hb=>?_) fun hb=>?_|fail
 ·have hi':=hb
  have hq:LightP m→lightR (m.groups.getD i gr0)=true:=fun h=>(hLP.1 h).2.2.2.2.2.2.2.2.1 i hi'
  have hst:=lt_step (p:=fun j=>lightR (m.groups.getD j gr0)=true) (i:=i) hs
  have hu1:=getD_all hu.gr.2 (gr0_u n) i
  have nm1:=big hu1.2.2.1.1
  have nm2:=big hu1.2.2.2.1
  clear hb
  refine yA hn_g1 fun g8 hn_g8=>?_
  generalize hv:m.groups.getD i gr0=x at*
  all_goals try(have Z:=(oj hn_g1 hn_g8);(repeat' first|refine zV Z ?_|refine zH Z (fun hb=>?_) fun hb=>?_|fail);all_goals clear Z)
  all_goals try (first
   |(refine yT hC (oj hn_g1 hn_g8) ?_
     refine .one (.c (ler_bool (hF fun h=> ?_)))
     have h2:=hq h
     unfold lightR at h2
     simp only [Bool.and_eq_true,decide_eq_true_eq] at h2
     omega
     done))
  have c2:=hb
  clear hb
  refine aw_lp (fun k:Nat=>[(1,.c (.optr g1 0)),(86,.c (grs true m.groups)),(87,.c (.int .i64 m.groups.length)),(88,.c (.int .i64 i)),(103,.c (rats true x.factors)),(104,.c (.int .i64 x.factors.length)),(105,.c (.int .i64 k))]) (fun _=>[(g1,.cells 29 8 (ofL (mdc true m)))]) (fun k=>k≤x.factors.length∧∀j,j<k→shortB (x.factors.getD j rd0)=true) (fun k=>x.factors.length-k) 0 (zB (oj hn_g1 hn_g8)) (List.sublist_cons_self _ _) ⟨Nat.zero_le _,no_lt⟩ ?_
  rintro k ⟨hk,hks⟩
  all_goals try(have Z:=(oj hn_g1 hn_g8);(repeat' first|refine zV Z ?_|refine zH Z (fun hb=>?_) fun hb=>?_|fail);all_goals clear Z)
  ·have hk':=hb
   have hqf:shortB (x.factors.getD k rd0)=false→lightR x=false:=lightR_ff hk'
   have hst2:=lt_step (p:=fun j=>shortB (x.factors.getD j rd0)=true) (i:=k) hks
   have s1:=short_fa _ (getD_all hu1.2.2.2.2 (rd0_u n) k) hn
   clear hb
   refine yA (oj hn_g1 hn_g8) fun g10 hn_g10=>?_
   generalize hv2:x.factors.getD k rd0=y at*
   all_goals try(have Z:=(oj hn_g1 (oj hn_g8 hn_g10));(repeat' first|refine zV Z ?_|(refine yC2 Z (s1) ?_)|(refine yD2 Z (s1) ?_)|refine zH Z (fun hb=>?_) fun hb=>?_|fail);all_goals clear Z)
   all_goals first
    |(refine yT hC (oj hn_g1 (oj hn_g8 hn_g10)) ?_
      refine .one (.c (ler_bool (hF fun h=> ?_)))
      have h2:=hq h
      rw [hqf (by simpa using hb)] at h2
      cases h2
      done)
    |(refine aw_stop ⟨k+1,?_⟩
      have ht3:=hst2 (by simpa using hb)
      and_intros
      all_goals first|rfl|exact List.sublist_cons_self _ _|exact List.Sublist.refl _|exact True.intro|exact ht3|omega)
  ·have ht3:=hst (lightR_tt om om fun j hj=>hks j om)
   refine aw_stop ⟨i+1,?_⟩
   and_intros
   all_goals first|rfl|exact List.sublist_cons_self _ _|exact List.Sublist.refl _|exact True.intro|exact ht3|omega
 have e9:∀j,j<m.groups.length→lightR (m.groups.getD j gr0)=true:=fun j hj=>hs j om
 clear hs hi hb
 refine aw_lp (fun i:Nat=>[(1,.c (.optr g1 0)),(115,.c (phs true m.phases)),(116,.c (.int .i64 m.phases.length)),(117,.c (.int .i64 i))]) (fun _=>[(g1,.cells 29 8 (ofL (mdc true m)))]) (fun i=>i≤m.phases.length∧∀j,j<i→lightH (m.phases.getD j ph0)=true) (fun i=>m.phases.length-i) 0 (zB hn_g1) zZ ⟨Nat.zero_le _,no_lt⟩ ?_
 rintro i ⟨hi,hs⟩
 repeat' first|refine zV hn_g1 ?_|refine zH hn_g1 (fun hb=>?_) fun hb=>?_|fail
 ·have hi':=hb
  have hq:LightP m→lightH (m.phases.getD i ph0)=true:=fun h=>(hLP.1 h).2.2.2.2.2.2.2.2.2 i hi'
  have hst:=lt_step (p:=fun j=>lightH (m.phases.getD j ph0)=true) (i:=i) hs
  have hu1:=getD_all hu.ph.2 (ph0_u n) i
  have nm1:=big hu1.2.2.1
  clear hb
  refine yA hn_g1 fun g12 hn_g12=>?_
  generalize hv:m.phases.getD i ph0=x at*
  all_goals try(have Z:=(oj hn_g1 hn_g12);(repeat' first|refine zV Z ?_|refine zH Z (fun hb=>?_) fun hb=>?_|fail);all_goals clear Z)
  all_goals try (first
   |(refine yT hC (oj hn_g1 hn_g12) ?_
     refine .one (.c (ler_bool (hF fun h=> ?_)))
     have h2:=hq h
     unfold lightH at h2
     simp only [Bool.and_eq_true,decide_eq_true_eq] at h2
     omega
     done))
  have c2:=hb
  clear hb
  refine aw_lp (fun k:Nat=>[(1,.c (.optr g1 0)),(115,.c (phs true m.phases)),(116,.c (.int .i64 m.phases.length)),(117,.c (.int .i64 i)),(126,.c (vls true x.values)),(127,.c (.int .i64 x.values.length)),(128,.c (.int .i64 k))]) (fun _=>[(g1,.cells 29 8 (ofL (mdc true m)))]) (fun k=>k≤x.values.length∧∀j,j<k→shortB (x.values.getD j vl0).p=true) (fun k=>x.values.length-k) 0 (zB (oj hn_g1 hn_g12)) (List.sublist_cons_self _ _) ⟨Nat.zero_le _,no_lt⟩ ?_
  rintro k ⟨hk,hks⟩
  all_goals try(have Z:=(oj hn_g1 hn_g12);(repeat' first|refine zV Z ?_|refine zH Z (fun hb=>?_) fun hb=>?_|fail);all_goals clear Z)
  ·have hk':=hb
   have hqf:shortB (x.values.getD k vl0).p=false→lightH x=false:=lightH_ff hk'
   have hst2:=lt_step (p:=fun j=>shortB (x.values.getD j vl0).p=true) (i:=k) hks
   have s1:=short_fa _ (getD_all hu1.2.2.2 (vl0_u n) k).2 hn
   clear hb
   refine yA (oj hn_g1 hn_g12) fun g14 hn_g14=>?_
   generalize hv2:x.values.getD k vl0=y at*
   all_goals try(have Z:=(oj hn_g1 (oj hn_g12 hn_g14));(repeat' first|refine zV Z ?_|(refine yC2 Z (s1) ?_)|(refine yD2 Z (s1) ?_)|refine zH Z (fun hb=>?_) fun hb=>?_|fail);all_goals clear Z)
   all_goals first
    |(refine yT hC (oj hn_g1 (oj hn_g12 hn_g14)) ?_
      refine .one (.c (ler_bool (hF fun h=> ?_)))
      have h2:=hq h
      rw [hqf (by simpa using hb)] at h2
      cases h2
      done)
    |(refine aw_stop ⟨k+1,?_⟩
      have ht3:=hst2 (by simpa using hb)
      and_intros
      all_goals first|rfl|exact List.sublist_cons_self _ _|exact List.Sublist.refl _|exact True.intro|exact ht3|omega)
  ·have ht3:=hst (lightH_tt om fun j hj=>hks j om)
   refine aw_stop ⟨i+1,?_⟩
   and_intros
   all_goals first|rfl|exact List.sublist_cons_self _ _|exact List.Sublist.refl _|exact True.intro|exact ht3|omega
 have e10:∀j,j<m.phases.length→lightH (m.phases.getD j ph0)=true:=fun j hj=>hs j om
 refine yT hC hn_g1 ?_
 exact .one (.c (ler_bool (hT (hLP.2 ⟨by omega,by omega,by omega,by omega,by omega,b6,e7,e8,e9,e10⟩))))
end Go.Proofs.YtnmeahogifekdaaGreatDoor
