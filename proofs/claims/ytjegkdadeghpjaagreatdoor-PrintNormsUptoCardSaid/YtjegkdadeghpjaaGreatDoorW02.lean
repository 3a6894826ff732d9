/- Parts of one proof, laid by a program. -/
import Derived.Test.YtjegkdadeghpjaaGreatDoorW00
import Derived.Test.YtjegkdadeghpjaaGreatDoorW01
import Derived.Laws.StructEq
import Derived.Test.YtjegkdadeghpjaaGreatDoorProg
import Derived.KernelRfl
set_option linter.unusedSimpArgs false
set_option linter.unusedVariables false
set_option maxRecDepth 100000
set_option maxHeartbeats 12800000
namespace Go.AI
section
attribute [go_sem] wide Bool.false_eq_true ND JV Qu OT ev Sl.get Sl.set Sl.az qU Oz Ui hJ bX dY xR B8 B9 ue Yc uf oc Yy eb sM Qa.get Qa.set Qa.del
attribute [go_sem] Option.map_some Option.map_none Option.bind_some List.getElem?_cons_zero List.getElem?_cons_succ Ad Nat.add_zero Nz Nat.sub_zero Nat.zero_mul Int.toNat_natCast
@[go_sem] theorem QuY (t p q:Bool):OR t (.c (.bool p)) (.c (.bool q))=.c (.bool (bif t then p else q)):=rfl
@[go_sem] theorem QuZ (x y:AV):OR true x y=x:=by rw [A2];rfl
@[go_sem] theorem QtL (x y:AV):OR false x y=y:=by rw [A2];rfl
abbrev ws (t:Bool) (xs:List Nat):CV:=.row t 1 xs.length fun j=>.int .u32 (xs.getD j 0:Nat)
def wf (zs:List Nat) (j:Nat):CV:=.int .u32 (zs.getD j 0:Nat)
@[go_sem] theorem NH (zs:List Nat) (j:Nat):wf zs j=.int .u32 (zs.getD j 0:Nat):=rfl
theorem ZO {zs:List Nat} {i v:Nat} (hi:i<zs.length):Vl (wf zs) i [.int .u32 (v:Int)]=wf (zs.set i v):=by
 funext j
 simp only [Vl]
 by_cases e:j=i
 ·subst e;simp [hi,wf]
 ·rw [iN e]
  show CV.int .u32 (zs.getD j 0:Nat)=CV.int .u32 ((zs.set i v).getD j 0:Nat)
  rw [Lg,Lg,List.getElem?_set_ne (fun h=>e h.symm)]
theorem JC (n:Nat):(fun j=>ao [.int .u32 0] (j%1))=wf (List.replicate n 0):=by
 funext j
 show ao [CV.int .u32 0] (j%1)=CV.int .u32 ((List.replicate n 0).getD j 0:Nat)
 rw [Nat.mod_one,Lg,List.getElem?_replicate]
 split<;>rfl
theorem TA (a:Int):ly .u64 a 32=a/4294967296:=by
 rw [JA]
 show a.fdiv 4294967296=_
 rw [Int.fdiv_eq_ediv_of_nonneg _ om]
theorem TC (a:Int):ly .i64 a 32=a/4294967296:=by
 rw [JA]
 show a.fdiv 4294967296=_
 rw [Int.fdiv_eq_ediv_of_nonneg _ om]
theorem TD (a:Int):ly .u64 a 63=a/9223372036854775808:=by
 rw [JA]
 show a.fdiv 9223372036854775808=_
 rw [Int.fdiv_eq_ediv_of_nonneg _ om]
theorem A8 (D:Nat):ly .u64 (D:Int) 63=((D/9223372036854775808:Nat):Int):=by rw [TD];omega
attribute [go_sem] TC TA JT Ld List.map_nil AV.cells Option.getD_some Option.getD_none
@[go_sem] theorem CK:∀(cs:List CV) (k:Nat),ao cs k=(cs[k]?).getD .any
  |[],_=>rfl
  |_::_,0=>rfl
  |_::cs,k+1=>by rw [List.getElem?_cons_succ];exact CK cs k
@[go_sem] theorem QqU (a b:Nat):((a:Int)+(b:Int)).toNat=a+b:=by omega
@[go_sem] theorem QqV (a:Nat):((a:Int)+1).toNat=a+1:=by omega
@[go_sem] theorem QqW (a:Nat):((a:Int)-1).toNat=a-1:=by omega
theorem Ul {k:IntKind} {a b:Int} (e:a=b):AV.c (.int k a)=.c (.int k b):=by rw [e]
attribute [go_sem] Sl.sub cond_true cond_false
theorem Qve {h:Qa} {t t':Bool} {xs:List Nat} (ht:t'=true→t=true):fe h (ws t xs) (ws t' xs):=.row ht fun _ _=>.refl _
theorem QZ {h:Qa} {t:Bool} {xs:List Nat}:JU h (ws true xs) (ws t xs):=.row fun _ _=>.int _ _
theorem VC {h:Qa} {t:Bool} {g off n m:Nat} {ty:TypeId} {f:Nat→CV} {ys:List Nat} (hg:h.get g=some (.cells ty m f)) (hm:off+n≤m) (hn:n=ys.length) (hf:∀j,j<n→f (off+j)=.int .u32 (ys.getD j 0:Nat)):JU h (.aO g 1 off n) (ws t ys):=by
 subst hn
 exact .aO hg om (fun j hj=>by rw [hf j om];exact .int _ _)
theorem Yi {h:Qa} {g off n m:Nat} {ty:TypeId} {f:Nat→CV} {ys:List Nat} (hg:h.get g=some (.cells ty m f)) (hm:off+n≤m) (hn:n=ys.length) (hf:∀j,j<n→f (off+j)=.int .u32 (ys.getD j 0:Nat)):fe h (.aO g 1 off n) (ws false ys):=by
 subst hn
 exact .aO hg om (fun j hj=>by rw [hf j om];exact .refl _)
theorem Qn {h:Qa} {k:IntKind} {a b:Int} (e:a=b):JU h (.int k a) (.int k b):=by subst e;exact .int _ _
theorem Qe {h:Qa} {a b:Bool} (e:a=b):JU h (.bool a) (.bool b):=by subst e;exact .bool _
@[go_sem] theorem l9 (P:Program) (fn:Func) (C:ZX) (r:AV):(Wn P fn C r).P=P:=rfl
@[go_sem] theorem Qww (P:Program) (σ:Sl) (h:Qa) (t:Nat):ZY P σ h [.tmp t]=some (σ.get t):=rfl
attribute [go_sem] ZY lz List.mapM_cons List.mapM_nil
theorem QL (n:Nat):Xz .u32 (n:Int)=((n%4294967296:Nat):Int):=by rw [QM,IntKind.wrap_u32];omega
theorem wrap_u64 {x:Int} (h0:0≤x) (h1:x≤18446744073709551615):IntKind.u64.wrap x=x:=XN ⟨h0,h1⟩
theorem wrap_u32 {x:Int} (h0:0≤x) (h1:x≤4294967295):IntKind.u32.wrap x=x:=XN ⟨h0,h1⟩
theorem wrap_i64 {x:Int} (h0: -9223372036854775808≤x) (h1:x≤9223372036854775807):IntKind.i64.wrap x=x:=XN ⟨h0,h1⟩
attribute [go_sem] Nat.reduceEqDiff reduceIte Nat.reduceAdd Nat.reduceSub Nat.reduceMul Nat.reduceLeDiff Nat.reduceLT Int.reduceToNat Lc Lu Bool.not_true Bool.not_false
section
variable {E : Vj} {K : List It} {σ : Sl} {h : Qa} {all l rest : List Oper} {o : Oper}
theorem fy {x y:Code} (k:aw E (.code x::.code y::K) σ h):aw E (.code (.seq x y)::K) σ h:=X5 k
theorem nr {id:Nat} {c:Code} (k:aw E (.code c::.ml id::K) σ h):aw E (.code (.block id c)::K) σ h:=Zc k
theorem sw (k:aw E K σ h):aw E (.code .skip::K) σ h:=xz k
theorem sz {id:Nat} (k:aw E K σ h):aw E (.ml id::K) σ h:=QtG k
theorem tM {id:Nat} {K':List It} (hk:qy id K=some K') (k:aw E K' σ h):aw E (.code (.exit id)::K) σ h:=QqZ hk k
theorem jP {id:Nat} (k:aw E (.ops l l::K) σ h):aw E (.code (.region id l.toArray false)::K) σ h:=YW k
theorem ql (k:aw E K σ h):aw E (.ops l []::K) σ h:=XP k
theorem qm (k:aw E (.ops l rest::K) σ h):YO E h l K 0 rest σ:=Qq7 k
theorem gN {t:Bool} {s n:Nat} {f:Nat→CV}:fe h (.row true s n f) (.row t s n f):=.row (fun _=>rfl) fun _ _=>.refl _
theorem Zf {h:Qa}:∀xs:List CV,gQ h xs xs
 |[]=>trivial
 |x::xs=>⟨.refl x,Zf xs⟩
end
end
section
def yq (C:ZX) (Q:AV→Qa→Prop):Ending→World→Prop:=fun e w'=>∃v r h',e=.returned v∧Q r h'∧h'.keys.Nodup∧(∀g∈h'.keys,C.bO g∨C.w0.heap.size≤g)∧
 VY (QH C h' w') w' r v∧(∀g o,(g,o)∈h'→YN (QH C h' w') w' g o)∧Fr C.bO C.w0 w'
def Fh (P:Program) (f:FuncId) (hc:Qa) (args:List AV) (Q:AV→Qa→Prop):Prop:=
 Ja P f∧∀(C:ZX) (vs:List Value),(∀b,C.bO b↔b∈hc.keys)→hc.keys.Nodup→(∀g o,(g,o)∈hc→YN C.S0 C.w0 g o)→ZN C.S0 C.w0 args vs→Calls P f vs.toArray C.w0 (yq C Q)
def V7 (P:Program) (fn:Func) (C:ZX) (Q:AV→Qa→Prop):Vj:={P,N:=fn.ntmps,C,Q:=bodyPost P fn (yq C Q)}
@[go_sem] theorem QxH (P:Program) (fn:Func) (C:ZX) (Q:AV→Qa→Prop):(V7 P fn C Q).P=P:=rfl
@[go_sem] theorem QxI (P:Program) (fn:Func) (C:ZX) (Q:AV→Qa→Prop):(V7 P fn C Q).C=C:=rfl
@[go_sem] theorem QxQ (P:Program) (fn:Func) (C:ZX) (r:AV):(Wn P fn C r).C=C:=rfl
theorem BH {h h':Qa} (hp:h.Perm h') (g:Nat):g∈h.keys↔g∈h'.keys:=(hp.map (·.1)).mem_iff
theorem A9 {h h':Qa} (hp:h.Perm h') (hn:h.keys.Nodup):h'.keys.Nodup:=((hp.map (fun p:Nat×XS=>p.1)).nodup_iff).1 hn
section
variable {E : Vj} {K : List It} {σ σ' : Sl} {h : Qa} {all rest : List Oper} {o : Oper}
theorem Hb {P:Program} {fn:Func} {C:ZX} {Q:AV→Qa→Prop} {x:AV} {a:Act} {w:World} (s:St fn.ntmps C σ h a w) {cg:List ResultVar} (dy:fn.results=cg.toArray) (hx:ZY P σ h cg=some x)
  (cW:∀xs,x=.aF xs→xs.all AV.flat=true) (hq:Q x h):a.defers=[]∧∃v,(results fn a.tmps).run P w=.ok v w∧yq C Q (.returned v) w:=by
 obtain⟨v,hv,hr⟩:=WI s dy hx cW
 exact⟨s.defers,v,hv,v,x,h,rfl,hq,s.nodup,s.keys,hr,s.heap,s.frame⟩
theorem Qq8 {P:Program} {fn:Func} {C:ZX} {Q:AV→Qa→Prop} {x:AV} {cg:List ResultVar} (dy:fn.results=cg.toArray) (hx:ZY P σ h cg=some x) (cW:∀xs,x=.aF xs→xs.all AV.flat=true)
 (hq:Q x h):aw (V7 P fn C Q) (.code .ret::K) σ h:=fun a w s=>wp_ret (UV a w (Hb s dy hx cW hq))
theorem Qq9 {P:Program} {fn:Func} {C:ZX} {Q:AV→Qa→Prop} {x:AV} {cg:List ResultVar} (dy:fn.results=cg.toArray) (hx:ZY P σ h cg=some x) (cW:∀xs,x=.aF xs→xs.all AV.flat=true)
 (hq:Q x h):aw (V7 P fn C Q) [] σ h:=fun a w s=>Hb s dy hx cW hq
theorem Hc {P:Program} {fn:Func} {C:ZX} {Q:AV→Qa→Prop} {cg:List ResultVar} (dy:fn.results=cg.toArray) (k:∀R:Option AV→Prop,(∀x,qx x=true→Q x h→R (some x))→R (ZY P σ h cg)):
  aw (V7 P fn C Q) (.code .ret::K) σ h:=by
 have:=k (fun y=>y=ZY P σ h cg→aw (V7 P fn C Q) (.code .ret::K) σ h) (fun x hf hq e=>Qq8 dy e.symm (Jb hf) hq)
 exact this rfl
theorem Hd {P:Program} {fn:Func} {C:ZX} {Q:AV→Qa→Prop} {cg:List ResultVar} (dy:fn.results=cg.toArray) (k:∀R:Option AV→Prop,(∀x,qx x=true→Q x h→R (some x))→R (ZY P σ h cg)):
  aw (V7 P fn C Q) [] σ h:=by
 have:=k (fun y=>y=ZY P σ h cg→aw (V7 P fn C Q) [] σ h) (fun x hf hq e=>Qq9 dy e.symm (Jb hf) hq)
 exact this rfl
theorem OU {P:Program} {f:FuncId} {fn:Func} {c:Code} {hc:Qa} {args:List AV} {Q:AV→Qa→Prop} (hf:P.funcs[f]?=some fn) (hb:fn.body=some c) (hn:(fn.name== "runtime.NumGoroutine")=false) (hl:args.length≤fn.ntmps)
  (k:∀C:ZX,(∀b,C.bO b↔b∈hc.keys)→aw (V7 P fn C Q) [.code c] (ZD 0 args) hc):Fh P f hc args Q:=by
 refine⟨⟨fn,hf,by rw [hb];rfl,hn⟩,fun C vs hC bf ho hr=> ?_⟩
 refine calls_of_wp hf hb (R:=yq C Q) ?_
 have hk:=k C hC
 have kp:Yn C.S0 (QH C hc C.w0) C.w0 C.w0:=⟨fun t b hb=>⟨.inl hb,C.lt t b hb,fun hm=>C.apart t b hb ((hC b).2 hm)⟩,fun _ _ _=>rfl,fun _ _ x=>x⟩
 have hlen:=hr.len
 refine hk _ _ ⟨?_,rfl,fun t=> ?_,fun g o hm=>YN.aT kp rfl (ho g o hm),bf,fun g hg=>.inl ((hC g).2 hg),Fr.refl _ _⟩
 ·show(vs.toArray++Array.replicate (fn.ntmps-vs.toArray.size) undef).size=fn.ntmps
  simp;omega
 ·rw [A3]
  simp only [Lz,if_true,Nat.sub_zero]
  refine VY.aT kp ?_
  have h1:=ZN.getD args vs hr t
  have h2:(vs.toArray++Array.replicate (fn.ntmps-vs.toArray.size) undef).getD t undef=vs.getD t undef:=by
   rw [Array.getD_eq_getD_getElem?,Lg]
   by_cases ht:t<vs.length
   ·rw [Array.getElem?_append_left (by simpa using ht)];simp
   ·rw [Array.getElem?_append_right (by simpa using ht)]
    rw [List.getElem?_eq_none om]
    simp [Array.getElem?_replicate]
    split<;>rfl
  rw [h2]
  exact h1
theorem fe.lY {S:Bool→Nat→Prop} {w:World} (hm:∀b,S true b→S false b) {x y:CV} {v:Value} (le:fe [] x y) (hr:XQ S w x v):XQ S w y v:=
 (le.rep hm (fun g o hg=>by simp at hg) hr).aT ⟨fun t b hb=>hb.elim id (fun x=>by simp [Qa.keys] at x),fun _ _ _=>rfl,fun _ _ x=>x⟩
theorem qt.lY {S:Bool→Nat→Prop} {w:World} (hm:∀b,S true b→S false b) {x y:AV} {v:Value} (le:qt [] x y) (hr:VY S w x v):Oy S w y v:=
 (le.rep hm (fun g o hg=>by simp at hg) hr).aT ⟨fun t b hb=>hb.elim id (fun x=>by simp [Qa.keys] at x),fun _ _ _=>rfl,fun _ _ x=>x⟩
theorem JT.lY {N:Nat} {C:ZX} {a:Act} {w:World} (s:St N C σ h a w):∀{xs:List Operand} {ys:List AV},JT [] (xs.map (ev σ)) ys→ZN (QH C h w) w ys (xs.map a.eval)
 |[],[],_=>trivial
 |x::xs,y::ys,le=>⟨le.1.lY QH.dM (QN s x),JT.lY s le.2⟩
 |[],_::_,le=>le.elim
 |_::_,[],le=>le.elim
theorem Fh.use {P:Program} {N:Nat} {C:ZX} {a:Act} {w:World} {f:FuncId} {vs:List Value} {args:List AV} {hc hr:Qa} {Q:AV→Qa→Prop} (hf:Fh P f hc args Q) (s:St N C σ h a w) (hp:h.Perm (hc++hr)) (le:ZN (QH C h w) w args vs):
  Calls P f vs.toArray w fun e w'=>∃v r h',e=.returned v∧Q r h'∧(∀g∈h'.keys,g∉hr.keys)∧St N C σ (h'++hr) a w'∧VY (QH C (h'++hr) w') w' r v:=by
 have eV:∀g,g∈h.keys↔g∈hc.keys∨g∈hr.keys:=fun g=>by
  rw [BH hp];simp [Qa.keys,List.mem_append,or_and_right,exists_or]
 have bf:(hc.keys++hr.keys).Nodup:=by
  have:(hc++hr).keys.Nodup:=A9 hp s.nodup
  simpa [Qa.keys] using this
 have pL:∀g,g∈hc.keys→g∉hr.keys:=fun g h1 h2=>(List.nodup_append.1 bf).2.2 g h1 g h2 rfl
 let C':ZX:={w0:=w,S0:=QH C h w,bO:=fun b=>b∈hc.keys,mono:=QH.dM,apart:=fun t b hb hm=>hb.2.2 ((eV b).2 (.inl hm)),lt:=fun t b hb=>hb.2.1}
 refine(hf.2 C' vs (fun b=>Iff.rfl) (List.nodup_append.1 bf).1 (fun g o hm=>s.heap g o (hp.mem_iff.2 (List.mem_append_left _ hm))) le).mono ?_
 rintro e w' ⟨v,r,h',he,hq,Er,dC,cR,ho,bd⟩
 have mL:∀g∈h'.keys,g∉hr.keys:=fun g hg hm=>by
  rcases dC g hg with h1|h1
  ·exact pL g h1 hm
  ·have:=s.jZ ((eV g).2 (.inr hm));have h2:w.heap.size≤g:=h1;omega
 have iY:∀g,g∈(h'++hr).keys↔g∈h'.keys∨g∈hr.keys:=fun g=>by simp [Qa.keys,List.mem_append,or_and_right,exists_or]
 have Rv:Yn (QH C' h' w') (QH C (h'++hr) w') w' w':=by
  refine⟨fun t b hb=> ?_,fun _ _ _=>rfl,fun _ _ x=>x⟩
  obtain⟨h1,h2,h3⟩:=hb
  rcases h1 with h1|h1
  ·have cU:QH C h w t b:=h1
   refine⟨cU.1,h2,fun hm=> ?_⟩
   rcases(iY b).1 hm with hm|hm
   ·exact h3 hm
   ·exact cU.2.2 ((eV b).2 (.inr hm))
  ·have cU:w.heap.size≤b:=h1
   refine⟨.inr (Lt s.frame.size cU),h2,fun hm=> ?_⟩
   rcases(iY b).1 hm with hm|hm
   ·exact h3 hm
   ·have:=s.jZ ((eV b).2 (.inr hm));omega
 have Rw:Yn (QH C h w) (QH C (h'++hr) w') w w':=by
  refine⟨fun t b hb=>⟨hb.1,Ae hb.2.1 bd.size,fun hm=> ?_⟩,fun t b hb=>bd.block b hb.2.1 (fun hm=>hb.2.2 ((eV b).2 (.inl hm))),bd.has⟩
  rcases(iY b).1 hm with hm|hm
  ·rcases dC b hm with h1|h1
   ·exact hb.2.2 ((eV b).2 (.inl h1))
   ·have h2:w.heap.size≤b:=h1;have:=hb.2.1;omega
  ·exact hb.2.2 ((eV b).2 (.inr hm))
 refine⟨v,r,h',he,hq,mL,⟨s.size,s.defers,fun t=>VY.aT Rw (s.bC t),fun g ob hm=> ?_,?_,fun g hg=> ?_,?_⟩,VY.aT Rv cR⟩
 ·rcases List.mem_append.1 hm with hm|hm
  ·exact YN.aT Rv rfl (ho g ob hm)
  ·have h1:=s.heap g ob (hp.mem_iff.2 (List.mem_append_right _ hm))
   exact YN.aT Rw (bd.block g h1.lt (fun h2=>pL g h2 (List.mem_map.2 ⟨_,hm,rfl⟩))) h1
 ·show(List.map (·.1) (h'++hr)).Nodup
  rw [List.map_append]
  refine List.nodup_append.2 ⟨Er,(List.nodup_append.1 bf).2.1,fun x hx y hy e=> ?_⟩
  subst e
  exact mL x hx hy
 ·rcases(iY g).1 hg with hg|hg
  ·rcases dC g hg with h1|h1
   ·exact s.keys g ((eV g).2 (.inl h1))
   ·exact .inr (Lt s.frame.size h1)
  ·exact s.keys g ((eV g).2 (.inr hg))
 ·refine s.frame.trans bd (fun x hx aD=> ?_)
  exact(s.keys x ((eV x).2 (.inl hx))).resolve_right om
theorem Qq {f:FuncId} {xs:List Operand} {ts:Array TypeId} {hc hr:Qa} {args:List AV} {Q:AV→Qa→Prop} (hf:Fh E.P f hc args Q) (au:o.op=.call {callee:=.value (.func f),args:=xs.toArray,argTypes:=ts}) (hw:Qu all σ o=some true) (hd:Qs E.N o.dst=true)
  (hp:h.Perm (hc++hr)) (le:JT [] (xs.map (ev σ)) args) (k:∀r h',Q r h'→(∀g∈h'.keys,g∉hr.keys)→aw E (.ops all rest::K) (σ.az o.dst r) (h'++hr)):aw E (.ops all (o::rest)::K) σ h:=fun a w s=>by
 show wpList _ _ _ _ _ _
 unfold wpList
 rw [iP (s.wanted hw)]
 refine .inl ?_
 unfold Oper.wp
 have aR:(execOp a.eval o).run E.P w=.ok (.enter f (xs.map a.eval).toArray) w:=by
  simp only [execOp,au,resolve,Act.eval,Deferred.ofValue,invoke,Sem.run_bind]
  have:=hf.1.run (#[]++(Array.map a.eval xs.toArray)++ #[]) w
  simp only [Sem.run_pure,Result.andThen_ok]
  rw [show((xs.map a.eval).toArray)=(#[]++(Array.map a.eval xs.toArray)++ #[]) from by simp]
  exact this
 rw [aR]
 show Calls _ _ _ _ _
 refine(hf.use s hp (JT.lY s le)).mono ?_
 rintro e w' ⟨v,r,h',rfl,hq,bd,s',cR⟩
 exact k r h' hq bd _ _ (s'.put hd cR)
theorem Qj {h':Qa} (hp:h.Perm h') (k:aw E K σ h'):aw E K σ h:=fun a w s=>by
 have eV:∀b,b∈h.keys↔b∈h'.keys:=BH hp
 have kp:Yn (QH E.C h w) (QH E.C h' w) w w:=⟨fun t b hb=>⟨hb.1,hb.2.1,fun hm=>hb.2.2 ((eV b).2 hm)⟩,fun _ _ _=>rfl,fun _ _ e=>e⟩
 exact k a w ⟨s.size,s.defers,fun t=>VY.aT kp (s.bC t),fun g o hm=>YN.aT kp rfl (s.heap g o (hp.mem_iff.2 hm)),A9 hp s.nodup,fun g hg=>s.keys g ((eV g).2 hg),s.frame⟩
theorem M9 {t g s off n m:Nat} {ty:TypeId} {f:Nat→CV} {σ':Sl} {h':Qa} (ht:σ.get t=.c (.aO g s off n)) (hg:h.get g=some (.cells ty m f)) (hm:off+n*s≤m) (hn:¬E.C.bO g) (gX:σ.set t (.c (.row true s n fun j=>f (off+j)))=σ') (hh:h.del g=h')
  (k:aw E K σ' h'):aw E K σ h:=fun a w st=>by
 subst gX hh
 refine k a w ?_
 have gU:(g,_)∈h:=Qa.get_mem hg
 have vu:g∈h.keys:=List.mem_map.2 ⟨_,gU,rfl⟩
 have dV:=Qa.db h g
 have kM:∀b,b∈(h.del g).keys→b∈h.keys:=fun b hb=>by
  obtain⟨p,hp,e⟩:=List.mem_map.1 hb
  exact List.mem_map.2 ⟨p,dV.subset hp,e⟩
 have kp:Yn (QH E.C h w) (QH E.C (h.del g) w) w w:=⟨fun t b hb=>⟨hb.1,hb.2.1,fun hm=>hb.2.2 (kM b hm)⟩,fun _ _ _=>rfl,fun _ _ e=>e⟩
 refine⟨st.size,st.defers,fun t'=> ?_,fun g' o' lK=>YN.aT kp rfl (st.heap g' o' (dV.subset lK)),(dV.map _).nodup st.nodup,fun g' ch=>st.keys g' (kM g' ch),st.frame⟩
 rw [Sl.bL]
 by_cases e:t=t'
 ·subst e
  rw [iP rfl]
  have h1:=st.bC t
  rw [ht] at h1
  obtain⟨c,hv,hc,_,_⟩:=h1
  obtain⟨cs,hb,cn,hj⟩:=st.heap g _ gU
  refine⟨some ⟨g,off,none⟩,c,hv,hc,fun _=>⟨⟨g,off,none⟩,rfl,⟨.inr ((st.keys g vu).resolve_left hn),st.jZ vu,Qa.fT h g st.nodup⟩,fun j bp=> ?_⟩⟩
  obtain⟨u,hu,hr⟩:=hj (off+j) om
  exact⟨u,by rw [Zr,YX hb];exact hu,hr.aT kp⟩
 ·rw [iN e]
  exact VY.aT kp (st.bC t')
end
end
section
attribute [go_sem] Lq Ln Lp
section
variable {E : Vj} {K : List It} {σ σ' : Sl} {h : Qa} {all rest : List Oper} {o : Oper}
theorem Ym {α:Type} {c:Code} (S:α→Sl) (H:α→Qa) (F:α→Prop) (k1:aw E (.code c::.stop (fun σ' h'=>∃x,Sl.sub (S x) σ'∧(H x).Sublist h'∧F x)::K) σ h) (k2:∀x,F x→aw E K (S x) (H x)):aw E (.code c::K) σ h:=fun a w s=>by
 have:=k1 a w s
 refine wp_mono this ?_
 intro e a' w' hq
 cases e with
 |normal=>
  obtain⟨jR,h2,⟨x,r1,r2,r3⟩,s2⟩:=hq
  exact k2 x r3 a' w' (s2.jQ (Sl.sub_le r1) r2)
 |exit id=>exact hq
 |goto l=>exact hq
 |ret=>exact hq
 |panic c=>exact hq
 |outgrown=>exact hq
theorem ZP {t:Nat} {v:AV} (hc:∀S w u,VY S w (σ.get t) u→VY S w v u) (gX:σ.set t v=σ') (k:aw E K σ' h):aw E K σ h:=fun a w s=>by
 subst gX
 refine k a w ⟨s.size,s.defers,fun t'=> ?_,s.heap,s.nodup,s.keys,s.frame⟩
 rw [Sl.bL]
 by_cases e:t=t'
 ·subst e;rw [iP rfl];exact hc _ _ _ (s.bC t)
 ·rw [iN e];exact s.bC t'
theorem Qok {S:Bool→Nat→Prop} {w:World} {t:Bool} {s n:Nat} {f f':Nat→CV} {u:Value} (hf:∀j,j<n*s→∀x,XQ S w (f j) x→XQ S w (f' j) x) (hr:XQ S w (.row t s n f) u):XQ S w (.row t s n f') u:=by
 obtain⟨A,c,hv,hc,hn⟩:=hr
 refine⟨A,c,hv,hc,fun h0=> ?_⟩
 obtain⟨ad,hA,hS,hj⟩:=hn h0
 refine⟨ad,hA,hS,fun j bp=> ?_⟩
 obtain⟨x,hx,hr⟩:=hj j bp
 exact⟨x,hx,hf j bp x hr⟩
theorem Qra {t g off n m:Nat} {ty:TypeId} {zs ys:List Nat} {σ':Sl} {h':Qa} (ht:σ.get t=.c (.aO g 1 off n)) (hg:h.get g=some (.cells ty m (wf zs))) (hm:off+n≤m) (hn:¬E.C.bO g) (hl:n=ys.length) (hy:∀j,j<n→zs.getD (off+j) 0=ys.getD j 0) (gX:σ.set t (.c (ws true ys))=σ') (hh:h.del g=h')
  (k:aw E K σ' h'):aw E K σ h:=by
 subst gX hl
 refine M9 ht hg om hn rfl hh (ZP (t:=t) (v:=.c (ws true ys)) (fun S w u hr=> ?_) rfl ?_)
 ·rw [Sl.bL,iP rfl] at hr
  refine Qok (fun j hj x hx=> ?_) hr
  have:wf zs (off+j)=.int .u32 (ys.getD j 0:Nat):=by rw [NH,hy j om]
  rw [this] at hx
  exact hx
 ·have e:∀(σ:Sl) (v v':AV),(σ.set t v).set t v'=σ.set t v':=by
   intro σ v v'
   induction σ with
   |nil=>simp [Sl.set]
   |cons p σ ih=>
    obtain⟨s,x⟩:=p
    by_cases h:s=t
    ·subst h;simp [Sl.set]
    ·simp [Sl.set,h,ih]
  rw [e];exact k
end
end
section
def Qa.ne (g:Nat):Qa→Prop
 |[]=>True
 |(g',_)::h=>((g=g')=False∧(g'=g)=False)∧Qa.ne g h
theorem Qa.ay {g:Nat}:∀{h:Qa},g∉h.keys→Qa.ne g h
 |[],_=>trivial
 |(g',_)::h,hg=>by
  simp only [Qa.keys,Ld,Lb,not_or] at hg
  exact⟨⟨eq_false hg.1,eq_false fun e=>hg.1 e.symm⟩,Qa.ay hg.2⟩
theorem Sl.dN:∀{σ:Sl} {t:Nat} {v:AV},σ.get t=v→v≠.c .any→σ.set t v=σ
 |[],t,v,h,hn=>by simp [Sl.get] at h;exact absurd h.symm hn
 |(s,x)::σ,t,v,h,hn=>by
  by_cases e:s=t
  ·subst e;simp [Sl.get] at h;subst h;simp [Sl.set]
  ·simp only [Sl.get,e,if_false] at h
   simp only [Sl.set,e,if_false,Sl.dN h hn]
section
variable {E : Vj} {K : List It} {σ σ' : Sl} {h : Qa} {all rest : List Oper} {o : Oper}
theorem YF (t:Nat) {b:Bool} (hb:σ.get t=.c (.bool b)) (k1:b=true→aw E K (σ.set t (.c (.bool true))) h) (k2:b=false→aw E K (σ.set t (.c (.bool false))) h):aw E K σ h:=by
 cases b with
 |true=>have:=k1 rfl;rwa [Sl.dN hb (fun e=>by cases e)] at this
 |false=>have:=k2 rfl;rwa [Sl.dN hb (fun e=>by cases e)] at this
theorem Bb (t:Nat) {b:Bool} {l:List Oper} {n:Nat} (hb:σ.get t=.c (.bool b)) (k1:b=true→YO E h l K n rest (σ.set t (.c (.bool true)))) (k2:b=false→YO E h l K n rest (σ.set t (.c (.bool false)))):YO E h l K n rest σ:=by
 cases b with
 |true=>have:=k1 rfl;rwa [Sl.dN hb (fun e=>by cases e)] at this
 |false=>have:=k2 rfl;rwa [Sl.dN hb (fun e=>by cases e)] at this
theorem He {t:Nat} {x y:Code} (hb:σ.get t=.c (.bool true)) (k:aw E (.code x::K) σ h):aw E (.code (.cond (.tmp t) x y)::K) σ h:=
 QQ hb (fun _=>k) (fun e=>by cases e)
theorem Hf {t:Nat} {x y:Code} (hb:σ.get t=.c (.bool false)) (k:aw E (.code y::K) σ h):aw E (.code (.cond (.tmp t) x y)::K) σ h:=
 QQ hb (fun e=>by cases e) (fun _=>k)
theorem ZQ (σ':Sl) (h':Qa) (hs:Sl.sub σ' σ) (hh:h'.Sublist h) (k:aw E K σ' h'):aw E K σ h:=Xa (Sl.sub_le hs) hh k
end
end
end Go.AI
namespace Go.PN
abbrev BS:=List UInt8
def XE (l:BS) (i:Nat):Nat:=(l.getD i 0).toNat
def Vn (l:BS) (i e:Nat):BS:=(l.drop i).take (e-i)
end Go.PN
namespace Go.AI
open Go.PN
section
abbrev sB (l:List UInt8):ByteArray:=⟨l.toArray⟩
def yu (a:ByteArray) (i:Nat):Int:=((XE a.data.toList i:Nat):Int)
def WK (a:ByteArray) (i e:Nat):ByteArray:=⟨(Vn a.data.toList i e).toArray⟩
@[go_sem] theorem Qvf (l:BS) (i:Nat):yu ⟨l.toArray⟩ i=((XE l i:Nat):Int):=rfl
@[go_sem] theorem Qu0 (l:BS) (i e:Nat):WK ⟨l.toArray⟩ i e=⟨(Vn l i e).toArray⟩:=rfl
@[go_sem] theorem Qwn (l:BS):ByteArray.size ⟨l.toArray⟩=l.length:=rfl
@[go_sem] theorem Qu1 (a b:BS):(⟨a.toArray⟩:ByteArray)++(⟨b.toArray⟩:ByteArray)=⟨(a++b).toArray⟩:=by apply ByteArray.ext;simp
theorem I3 (l:List UInt8):∀(k i:Nat) (r:List UInt8),l.length-i=k→ByteArray.toList.loop ⟨l.toArray⟩ i r=r.reverse++l.drop i
 |0,i,r,hk=>by
  rw [ByteArray.toList.loop,iN (show¬i<(⟨l.toArray⟩:ByteArray).size from by show¬i<l.length;omega),List.drop_of_length_le om,Lp]
 |k+1,i,r,hk=>by
  have hi:i<l.length:=by omega
  rw [ByteArray.toList.loop,iP (show i<(⟨l.toArray⟩:ByteArray).size from hi),I3 l k (i+1) _ om]
  have:(⟨l.toArray⟩:ByteArray).get! i=l[i]:=by
   show l.toArray[i]! =_
   simp [hi]
  rw [this,List.drop_eq_getElem_cons hi]
  simp
theorem K0 (l:List UInt8):(sB l).toList=l:=by
 unfold ByteArray.toList
 rw [I3 l _ 0 [] rfl];rfl
@[go_sem] theorem QxJ (a b:List UInt8):V4 (sB a) (sB b)=Op.bytesLess a b:=by unfold V4;rw [K0,K0]
theorem QtM (a:List UInt8) (i:Nat):(sB a)[i]?=a[i]?:=by
 by_cases h:i<a.length
 ·rw [getElem?_pos (⟨a.toArray⟩:ByteArray) i h,Li h];rfl
 ·rw [getElem?_neg (⟨a.toArray⟩:ByteArray) i h,List.getElem?_eq_none om]
@[go_sem] theorem Qol (a b:List UInt8):KN ⟨a.toArray⟩ ⟨b.toArray⟩=(a==b):=by unfold KN;rw [show(⟨a.toArray⟩:ByteArray).toList=a from K0 a,show(⟨b.toArray⟩:ByteArray).toList=b from K0 b]
theorem NI (a:ByteArray):a=sB a.data.toList:=by cases a;rfl
theorem QtN (l:BS) (i e:Nat) (h:e≤l.length):(sB l).extract i e=sB (Vn l i e):=by
 apply ByteArray.ext
 simp [Vn,List.take_drop]
def lA (P:Program) (t:TypeId):Bool:=match P.underlying t with
 |some .string=>true
 |_=>false
theorem K1 {P:Program} {t:TypeId} (h:lA P t=true):P.underlying t=some .string:=by
 unfold lA at h
 split at h
 ·assumption
 ·cases h
section
variable {P : Program} {h : Qa} {ρ : Operand → AV}
theorem QB.E1 {t:TypeId} {x:Operand} {a:ByteArray} (ht:lA P t=true) (hx:ρ x=.c (.str a)):QB P h ρ (.call {callee:=.builtin .len,args:= #[x],argTypes:= #[t]}) (.c (.int .i64 (a.size:Int))):=fun S w e _ ho _=>by
 have h2:e x=.string a:=by have:=ho x (by simp [Op.operands,Call.operands]);rw [hx] at this;exact this
 exact⟨.int .i64 a.size,fun o au=>by simp [execOp,au,resolve,invoke,Go.builtin,Builtin.len_,h2,run_underlying (K1 ht),goInt],rfl⟩
theorem QB.sf {t:TypeId} {x ix:Operand} {k:IntKind} {a:ByteArray} {i:Int} (ht:lA P t=true) (hx:ρ x=.c (.str a)) (ki:ρ ix=.c (.int k i)) (h0:0≤i) (h1:i<a.size):QB P h ρ (.index t x ix) (.c (.int .u8 (yu a i.toNat))):=fun S w e _ ho _=>by
 obtain⟨n,rfl⟩:=Int.eq_ofNat_of_zero_le h0
 have e1:e x=.string a:=by have:=ho x Ag;rw [hx] at this;exact this
 have e2:e ix=.int k (n:Int):=by have:=ho ix Ag;rw [ki] at this;exact this
 have hi:n<a.size:=by omega
 refine⟨_,fun o au=> ?_,rfl⟩
 have hg:=QtM a.data.toList n
 rw [←NI a] at hg
 have hl:n<a.data.toList.length:=by rw [Array.length_toList];exact hi
 rw [Li hl] at hg
 unfold yu XE
 rw [Int.toNat_natCast,Lg,Li hl]
 simp [execOp,au,e1,e2,Instr.index,asIntOf,run_underlying (K1 ht),hg]
theorem QB.jg {t:TypeId} {x:Operand} {lo hi:Option Operand} {a:ByteArray} {i j:Int} (ht:lA P t=true) (hx:ρ x=.c (.str a)) (ic:match lo with|none=>i=0|some y=>∃k,ρ y=.c (.int k i)) (fF:match hi with|none=>j=a.size|some y=>∃k,ρ y=.c (.int k j)) (h0:0≤i) (h1:i≤j) (h2:j≤a.size):
  QB P h ρ (.slice t x lo hi none) (.c (.str (WK a i.toNat j.toNat))):=fun S w e _ ho _=>by
 obtain⟨n,rfl⟩:=Int.eq_ofNat_of_zero_le h0
 obtain⟨m,rfl⟩:=Int.eq_ofNat_of_zero_le (Int.le_trans h0 h1)
 have e1:e x=.string a:=by have:=ho x Ag;rw [hx] at this;exact this
 have hn:n≤m:=by omega
 have hm:m≤a.size:=by omega
 have hc:a.extract n m=WK a n m:=by
  conv=>lhs;rw [NI a]
  exact QtN _ _ _ (by rw [Array.length_toList];exact hm)
 refine⟨.string (WK a n m),fun o au=> ?_,rfl⟩
 cases lo with
 |none=>
  have jo:n=0:=by have:((n:Nat):Int)=0:=ic;omega
  subst jo
  cases hi with
  |none=>
   have ie:m=a.size:=by have:((m:Nat):Int)=a.size:=fF;omega
   subst ie
   have dv:WK a 0 a.size=a:=by rw [←hc];simp
   simp [execOp,au,e1,Instr.sliceAt,Instr.slice,Instr.sliceBounds,run_underlying (K1 ht),dv]
  |some z=>
   obtain⟨k,hz⟩:=fF
   have e3:e z=.int k (m:Int):=by have:=ho z Ag;rw [hz] at this;exact this
   simp [execOp,au,e1,e3,Instr.sliceAt,Instr.slice,Instr.sliceBounds,Instr.sliceBound,asIntOf,run_underlying (K1 ht),hc,hm,hn]
 |some y=>
  obtain⟨k,hy⟩:=ic
  have e2:e y=.int k (n:Int):=by have:=ho y Ag;rw [hy] at this;exact this
  cases hi with
  |none=>
   have ie:m=a.size:=by have:((m:Nat):Int)=a.size:=fF;omega
   subst ie
   simp [execOp,au,e1,e2,Instr.sliceAt,Instr.slice,Instr.sliceBounds,Instr.sliceBound,asIntOf,run_underlying (K1 ht),hc,hn]
  |some z=>
   obtain⟨k',hz⟩:=fF
   have e3:e z=.int k' (m:Int):=by have:=ho z Ag;rw [hz] at this;exact this
   simp [execOp,au,e1,e2,e3,Instr.sliceAt,Instr.slice,Instr.sliceBounds,Instr.sliceBound,asIntOf,run_underlying (K1 ht),hc,hm,hn]
def yw (P:Program) (t:TypeId):AV→AV→Option (Prop×AV)
 |.c (.str a),.c (.int _ i)=>some (lA P t=true∧0≤i∧i<(a.size:Int),.c (.int .u8 (yu a i.toNat)))
 |_,_=>none
def yx (P:Program) (ρ:Operand→AV) (t:TypeId) (a:ByteArray):Option Operand→Option Operand→Option (Prop×AV)
 |some y,some z=>match ρ y,ρ z with
  |.c (.int _ i),.c (.int _ j)=>some (lA P t=true∧0≤i∧i≤j∧j≤(a.size:Int),.c (.str (WK a i.toNat j.toNat)))
  |_,_=>none
 |some y,none=>match ρ y with
  |.c (.int _ i)=>some (lA P t=true∧0≤i∧i≤(a.size:Int),.c (.str (WK a i.toNat a.size)))
  |_=>none
 |none,some z=>match ρ z with
  |.c (.int _ j)=>some (lA P t=true∧0≤j∧j≤(a.size:Int),.c (.str (WK a 0 j.toNat)))
  |_=>none
 |none,none=>none
theorem Qom {t:TypeId} {x ix:Operand} {req:Prop} {r:AV} (hb:yw P t (ρ x) (ρ ix)=some (req,r)) (aP:req):QB P h ρ (.index t x ix) r:=by
 unfold yw at hb
 split at hb
 ·rename_i hx ki
  simp only [Aa,Ab] at hb
  obtain⟨rfl,rfl⟩:=hb
  exact QB.sf aP.1 hx ki aP.2.1 aP.2.2
 ·cases hb
theorem Qon {t:TypeId} {x:Operand} {a:ByteArray} {lo hi:Option Operand} {req:Prop} {r:AV} (hx:ρ x=.c (.str a)) (hb:yx P ρ t a lo hi=some (req,r)) (aP:req):QB P h ρ (.slice t x lo hi none) r:=by
 unfold yx at hb
 split at hb
 ·split at hb
  ·rename_i hy hz
   simp only [Aa,Ab] at hb
   obtain⟨rfl,rfl⟩:=hb
   exact QB.jg aP.1 hx ⟨_,hy⟩ ⟨_,hz⟩ aP.2.1 aP.2.2.1 aP.2.2.2
  ·cases hb
 ·split at hb
  ·rename_i hy
   simp only [Aa,Ab] at hb
   obtain⟨rfl,rfl⟩:=hb
   have:=QB.jg (h:=h) (lo:=some _) (hi:=none) (j:=(a.size:Int)) aP.1 hx ⟨_,hy⟩ rfl aP.2.1 aP.2.2 (Int.le_refl _)
   simpa using this
  ·cases hb
 ·split at hb
  ·rename_i hz
   simp only [Aa,Ab] at hb
   obtain⟨rfl,rfl⟩:=hb
   exact QB.jg (h:=h) (lo:=none) (hi:=some _) (i:=0) aP.1 hx rfl ⟨_,hz⟩ (Int.le_refl _) aP.2.1 aP.2.2
  ·cases hb
 ·cases hb
end
end
end Go.AI
namespace Go.AI
section
def OV:AV→Bool
 |.aF _=>false
 |.c x=>x.aX
 |.agg xs=>xs.all CV.aX
theorem WM {x:AV} (h:OV x=true):(∀xs,x≠.aF xs)∧x.cells.all CV.aX=true:=by
 cases x with
 |aF xs=>cases h
 |c x=>exact⟨(fun _ e=>by cases e),by simpa [OV,AV.cells] using h⟩
 |agg xs=>exact⟨(fun _ e=>by cases e),by simpa [OV,AV.cells] using h⟩
def ug (ρ:Operand→AV):List (Nat×Operand)→Bool
 |[]=>true
 |p::ps=>OV (ρ p.2)&&ug ρ ps
theorem Fl {ρ:Operand→AV}:∀{ps:List (Nat×Operand)},ug ρ ps=true→∀p∈ps,(∀xs,ρ p.2≠.aF xs)∧(ρ p.2).cells.all CV.aX=true
 |[],_,p,hp=>by simp at hp
 |q::ps,h,p,hp=>by
  simp only [ug,Ba] at h
  rcases Lb.1 hp with e|hp
  ·subst e;exact WM h.1
  ·exact Fl h.2 p hp
section
variable {P : Program} {h : Qa} {ρ : Operand → AV}
def WN (ρ:Operand→AV):List (Nat×Operand)→List (Nat×List CV)
 |[]=>[]
 |p::ps=>(p.1,(ρ p.2).cells)::WN ρ ps
theorem Fs (ρ:Operand→AV):∀ps:List (Nat×Operand),WN ρ ps=ps.map fun p=>(p.1,(ρ p.2).cells)
 |[]=>rfl
 |p::ps=>by simp [WN,Fs ρ ps]
def xX (P:Program) (ρ:Operand→AV) (t:TypeId) (ps:List (Nat×Operand)):Option (Prop×AV):=
 match Q8 P t,Qk P t with
 |some fl,some z=>match qz fl z (WN ρ ps) with
  |some out=>some (ug ρ ps=true,.agg out)
  |none=>none
 |_,_=>none
theorem Um {t:TypeId} {ps:List (Nat×Operand)} {req:Prop} {r:AV} (hb:xX P ρ t ps=some (req,r)) (aP:req):QB P h ρ (.build t ps.toArray) r:=by
 unfold xX at hb
 split at hb
 ·rename_i fl z cW hz
  split at hb
  ·rename_i out iZ
   simp only [Aa,Ab] at hb
   obtain⟨rfl,rfl⟩:=hb
   refine Fu (req:=∀p∈ps,(∀xs,ρ p.2≠.aF xs)∧(ρ p.2).cells.all CV.aX=true) ?_ (Fl aP)
   unfold uf
   rw [cW,hz]
   simp only
   rw [←Fs,iZ]
  ·cases hb
 ·cases hb
def yy (P:Program) (t:TypeId):Bool:=match P.underlying t with
 |some (.struct _)=>true
 |_=>false
theorem OW {t:TypeId} (h:yy P t=true):P.underlying t=some (.struct (P.fieldsOf t)):=by
 unfold yy at h
 unfold Program.fieldsOf
 split at h
 ·rename_i fs vm;rw [vm]
 ·cases h
def mz (P:Program) (t:TypeId):Option Nat:=
 if !P.stoodInHeld t&& !P.eqGuardType P.depth t&&(P.fieldsOf t).toList.zipIdx.all (fun p=>p.1.name != "_" &&p.1.offset==p.2&&(ZC P p.1.type).isSome)&&yy P t then some (P.fieldsOf t).size else none
def OE:List CV→Option (List Int)
 |[]=>some []
 |.int .i64 n::l=>match OE l with
  |some ns=>some (n::ns)
  |none=>none
 |_=>none
theorem Un {S:Bool→Nat→Prop} {w:World}:∀{cs:List CV} {ns:List Int} {us:List Value},OE cs=some ns→XV S w cs us→us=ns.map (Value.int .i64)
 |[],ns,us,h1,h2=>by
  simp [OE] at h1;subst h1
  cases us with
  |nil=>rfl
  |cons u us=>exact h2.elim
 |c::cs,ns,us,h1,h2=>by
  cases us with
  |nil=>exact h2.elim
  |cons u us=>
   unfold OE at h1
   split at h1
   ·rename_i heq;cases heq
   ·rename_i n l heq
    cases heq
    split at h1
    ·rename_i ns' tz
     injection h1 with h1
     subst h1
     have hu:u=.int .i64 n:=h2.1
     rw [hu,Ld,Un tz h2.2]
    ·cases h1
   ·cases h1
def j6:List Int→List Int→Bool
 |[],[]=>true
 |a::iu,b::bs=>a==b&&j6 iu bs
 |_,_=>false
theorem Nb:∀{iu bs:List Int},j6 iu bs=decide (iu=bs)
 |[],[]=>by simp [j6]
 |a::iu,b::bs=>by
  simp only [j6,Nb (iu:=iu) (bs:=bs),List.cons.injEq,Bool.decide_and]
  rfl
 |[],b::bs=>by simp [j6]
 |a::iu,[]=>by simp [j6]
theorem JD {P:Program} (w:World) (xs ys:Array Value) (iu bs:List Int) (hx:xs=(iu.map (Value.int .i64)).toArray) (hy:ys=(bs.map (Value.int .i64)).toArray) (hl:iu.length=bs.length):
  ∀(fs:List Field) (k:Nat),(fs.zipIdx k).all (fun p=>p.1.name != "_" &&p.1.offset==p.2&&(ZC P p.1.type).isSome)=true→k+fs.length=iu.length→(Op.eqFields 9999 xs ys fs).run P w=.ok (j6 (iu.drop k) (bs.drop k)) w
 |[],k,_,hk=>by
  rw [List.drop_of_length_le (by simp at hk;omega),List.drop_of_length_le (by simp at hk;omega)]
  simp [Op.eqFields,j6]
 |f::fs,k,hf,hk=>by
  simp only [List.zipIdx_cons,List.all_cons,Ba,bne_iff_ne,ne_eq,beq_iff_eq] at hf
  obtain⟨⟨⟨hn,ho⟩,hi⟩,hr⟩:=hf
  simp only [Lc] at hk
  have iY:k<iu.length:=by omega
  have P4:k<bs.length:=by omega
  obtain⟨kk,eV⟩:=Option.isSome_iff_exists.1 hi
  have hu:=V6 eV
  have zm:(isAgg f.type).run P w=.ok false w:=by simp [isAgg,run_underlying hu]
  have e1:xs[k]?=some (Value.int .i64 (iu[k])):=by rw [hx];simp [iY]
  have e2:ys[k]?=some (Value.int .i64 (bs[k])):=by rw [hy];simp [P4]
  have p1:(part f.type xs f.offset).run P w=.ok (.int .i64 (iu[k])) w:=by
   unfold part
   simp only [Sem.run_bind,zm,Result.andThen_ok,Bool.false_eq_true,if_false,ho,e1,Sem.run_pure]
  have p2:(part f.type ys f.offset).run P w=.ok (.int .i64 (bs[k])) w:=by
   unfold part
   simp only [Sem.run_bind,zm,Result.andThen_ok,Bool.false_eq_true,if_false,ho,e2,Sem.run_pure]
  have p3:(Op.equalIn 9999 f.type (.int .i64 (iu[k])) (.int .i64 (bs[k]))).run P w=.ok (iu[k]==bs[k]) w:=run_equalIn_int w 9998 f.type .i64 kk _ _ hu
  have ih:=JD w xs ys iu bs hx hy hl fs (k+1) (by simpa using hr) om
  rw [List.drop_eq_getElem_cons iY,List.drop_eq_getElem_cons P4]
  simp only [Op.eqFields,hn,not_false_eq_true,if_true,Sem.run_bind,p1,p2,p3,Result.andThen_ok,j6,ne_eq]
  cases lE:(iu[k]==bs[k]) with
  |true=>simpa using ih
  |false=>simp
theorem Uo:∀{cs:List CV} {ns:List Int},OE cs=some ns→ns.length=cs.length
 |[],ns,h=>by simp [OE] at h;subst h;rfl
 |c::cs,ns,h=>by
  unfold OE at h
  split at h
  ·rename_i heq;cases heq
  ·rename_i n l heq
   cases heq
   split at h
   ·rename_i ns' tz
    injection h with h
    subst h
    simp [Uo tz]
   ·cases h
  ·cases h
theorem BI {t n:Nat} (ht:mz P t=some n) {iu bs:List Int} (ha:iu.length=n) (hb:bs.length=n) (w:World):(Op.equalIn 10000 t (.agg (iu.map (Value.int .i64)).toArray) (.agg (bs.map (Value.int .i64)).toArray)).run P w=.ok (j6 iu bs) w∧P.eqGuardType P.depth t=false:=by
 unfold mz at ht
 split at ht
 ·rename_i hc
  simp only [Ba,Bool.not_eq_true'] at hc
  obtain⟨⟨⟨h1,h2⟩,h3⟩,h4⟩:=hc
  injection ht with ht
  refine⟨?_,h2⟩
  have hu:=OW h4
  rw [show(10000:Nat)=9999+1 from rfl,run_equalIn_agg w 9999 t _ _ hu h1]
  have:=JD (P:=P) w _ _ iu bs rfl rfl om (P.fieldsOf t).toList 0 h3 (by simp;omega)
  simpa using this
 ·cases ht
def iB (P:Program) (op:BinOp) (t:TypeId) (xs ys:List CV):Option (Prop×AV):=
 match mz P t,OE xs,OE ys,op with
 |some n,some iu,some bs,.eql=>some (xs.length=n∧ys.length=n,.c (.bool (j6 iu bs)))
 |some n,some iu,some bs,.neq=>some (xs.length=n∧ys.length=n,.c (.bool (!j6 iu bs)))
 |_,_,_,_=>none
theorem QB.iB {op:BinOp} {t t':TypeId} {x y:Operand} {xs ys:List CV} {req:Prop} {r:AV} (hx:ρ x=.agg xs) (hy:ρ y=.agg ys) (hr:AI.iB P op t xs ys=some (req,r)) (aP:req):QB P h ρ (.binOp op t x y t') r:=fun S w e _ ho _=>by
 have h1:=ho x Ag
 have h2:=ho y Ag
 rw [hx] at h1
 rw [hy] at h2
 obtain⟨us,hu,gp⟩:=h1
 obtain⟨vs,hv,zF⟩:=h2
 unfold AI.iB at hr
 split at hr
 ·rename_i n iu bs ht ha hb
  simp only [Aa,Ab] at hr
  obtain⟨rfl,rfl⟩:=hr
  obtain⟨r1,r2⟩:=BI ht (iu:=iu) (bs:=bs) (by rw [Uo ha];exact aP.1) (by rw [Uo hb];exact aP.2) w
  have e1:=Un ha gp
  have e2:=Un hb zF
  refine⟨.bool (j6 iu bs),fun o au=>YD au ?_ ?_,rfl⟩
  ·rw [hu,hv];exact run_eqGuard_agg w _ _ _ _ _ _ r2
  ·rw [hu,hv,run_eql_struct,e1,e2,r1];rfl
 ·rename_i n iu bs ht ha hb
  simp only [Aa,Ab] at hr
  obtain⟨rfl,rfl⟩:=hr
  obtain⟨r1,r2⟩:=BI ht (iu:=iu) (bs:=bs) (by rw [Uo ha];exact aP.1) (by rw [Uo hb];exact aP.2) w
  have e1:=Un ha gp
  have e2:=Un hb zF
  refine⟨.bool (!j6 iu bs),fun o au=>YD au ?_ ?_,rfl⟩
  ·rw [hu,hv];exact run_eqGuard_agg w _ _ _ _ _ _ r2
  ·rw [hu,hv,run_neq_struct,e1,e2,r1];rfl
 ·cases hr
def ji (P:Program) (t:TypeId):Option (IntKind×Int):=match (P.info? t).bind (·.zero) with
 |some (.int k n)=>some (k,n)
 |_=>none
theorem Qrb {t:TypeId} {k:IntKind} {n:Int} (h:ji P t=some (k,n)) (w:World):(zeroValue t).run P w=.ok (.int k n) w:=by
 unfold ji at h
 split at h
 ·rename_i k' n' he
  simp only [Aa,Ab] at h
  obtain⟨rfl,rfl⟩:=h
  cases hi:P.info? t with
  |none=>rw [hi] at he;cases he
  |some i=>
   rw [hi] at he
   have hz:i.zero=some (.int k' n'):=he
   simp [zeroValue,typeInfo,hi,hz]
 ·cases h
def wQ (P:Program) (t:TypeId):AV→Option (Prop×AV)
 |.c (.eZ u c)=>match ZC P t with
  |some _=>if u=t then some (True,.aF [.c c,.c (.bool true)]) else none
  |none=>none
 |.c .aN=>match ZC P t,ji P t with
  |some _,some (k,z)=>some (True,.aF [.c (.int k z),.c (.bool false)])
  |_,_=>none
 |_=>none
theorem QB.ow {x:Operand} {xt t:TypeId} {req:Prop} {r:AV} (hr:wQ P t (ρ x)=some (req,r)) (aP:req):QB P h ρ (.typeAssert x xt t true) r:=fun S w e _ ho _=>by
 have h1:=ho x Ag
 unfold wQ at hr
 split at hr
 ·rename_i u c hx
  rw [hx] at h1
  obtain⟨v,hv,hc⟩:=h1
  split at hr
  ·rename_i k hk
   split at hr
   ·rename_i e1
    subst e1
    simp only [Aa,Ab] at hr
    obtain⟨rfl,rfl⟩:=hr
    refine⟨.tuple #[v,.bool true],fun o au=> ?_,[v,.bool true],rfl,hc,rfl,trivial⟩
    simp [execOp,au,hv,Instr.typeAssert,run_underlying (V6 hk)]
   ·cases hr
  ·cases hr
 ·rename_i hx
  rw [hx] at h1
  have hv:e x=.nilIface:=h1
  split at hr
  ·rename_i k0 k z hk hz
   simp only [Aa,Ab] at hr
   obtain⟨rfl,rfl⟩:=hr
   refine⟨.tuple #[.int k z,.bool false],fun o au=> ?_,[.int k z,.bool false],rfl,rfl,rfl,trivial⟩
   simp [execOp,au,hv,Instr.typeAssert,run_underlying (V6 hk),Qrb hz]
  ·cases hr
 ·cases hr
theorem QB.lW {x:Operand} {n:Nat} {f:Nat→CV} (hx:ρ x=.c (.eR n f)):QB P h ρ (.nilCheck x) (.c (.eR n f)):=fun S w e _ ho _=>by
 have h1:=ho x Ag
 rw [hx] at h1
 have cU:=h1
 obtain⟨ad,hv,_⟩:=h1
 exact⟨e x,fun o au=>by simp only [execOp,au,hv];rfl,cU⟩
noncomputable def UY (P:Program) (nw:Bool) (h:Qa) (ρ:Operand→AV):Op→Option (Prop×AV)
 |.build t ⟨ps⟩=>xX P ρ t ps
 |.typeAssert x _ t true=>wQ P t (ρ x)
 |.binOp op t x y t'=>match ρ x,ρ y with
  |.agg xs,.agg ys=>iB P op t xs ys
  |a,b=>Ui P nw op t y a b
 |.nilCheck x=>match ρ x with
  |.c (.eR n f)=>some (True,.c (.eR n f))
  |.c (.aj g off)=>some (True,.c (.aj g off))
  |_=>none
 |.index t x ix=>yw P t (ρ x) (ρ ix)
 |.slice t x lo hi none=>match ρ x with
  |.c (.str a)=>yx P ρ t a lo hi
  |_=>ue P ρ t x lo hi
 |.call {callee:=.builtin .len,args:=⟨[x]⟩,argTypes:=⟨[t]⟩}=>match ρ x with
  |.c (.str a)=>some (lA P t=true,.c (.int .i64 (a.size:Int)))
  |.c c=>match QP P t with
   |some _=>(oc c).map fun(n:Nat)=>(True,.c (.int .i64 (n:Int)))
   |none=>none
  |_=>none
 |op=>OT P nw h ρ op
theorem UZ {nw:Bool} {op:Op} {req:Prop} {r:AV} (hk:∀v,ρ (.const v)=qU v) (hb:UY P nw h ρ op=some (req,r)) (aP:req):QB P h ρ op r:=by
 unfold UY at hb
 split at hb
 ·exact Um hb aP
 ·exact QB.ow hb aP
 ·split at hb
  ·rename_i hx hy;exact QB.iB hx hy hb aP
  ·exact Ho hk hb aP
 ·split at hb
  ·rename_i hx
   simp only [Aa,Ab] at hb;obtain⟨rfl,rfl⟩:=hb;exact QB.lW hx
  ·rename_i hx
   simp only [Aa,Ab] at hb;obtain⟨rfl,rfl⟩:=hb;exact QB.iM hx
  ·cases hb
 ·exact Qom hb aP
 ·split at hb
  ·rename_i hx;exact Qon hx hb aP
  ·exact Fz hb aP
 ·split at hb
  ·rename_i hx
   simp only [Aa,Ab] at hb;obtain⟨rfl,rfl⟩:=hb;exact QB.E1 aP hx
  ·rename_i c _ hx
   split at hb
   ·rename_i ht
    cases hn:oc c with
    |none=>rw [hn] at hb;cases hb
    |some n=>
     rw [hn] at hb
     simp only [Option.map_some,Aa,Ab] at hb;obtain⟨rfl,rfl⟩:=hb;exact QB.lV ht hx hn
   ·cases hb
  ·cases hb
 ·exact A4 hk hb aP
noncomputable def Za (P:Program) (nw:Bool) (h:Qa) (all:List Oper) (o:Oper) (σ:Sl):Option (Prop×Sl):=
 match Qu all σ o with
 |some true=>match UY P nw h (ev σ) o.op with
  |some (q,r)=>some (q,σ.az o.dst r)
  |none=>none
 |some false=>some (True,σ.az o.dst (.aF []))
 |none=>none
end
section
variable {E : Vj} {K : List It} {σ σ' : Sl} {h : Qa} {all rest : List Oper} {o : Oper}
theorem qE (nw:Bool) (hd:Qs E.N o.dst=true) (k:∀R:Option (Prop×Sl)→Prop,(∀q σ',q→aw E (.ops all rest::K) σ' h→R (some (q,σ')))→R (Za E.P nw h all o σ)):aw E (.ops all (o::rest)::K) σ h:=by
 have:=k (fun x=>x=Za E.P nw h all o σ→aw E (.ops all (o::rest)::K) σ h) (fun q σ' hq ha e=>by
  unfold Za at e
  split at e
  ·rename_i hw
   split at e
   ·rename_i q1 r hp
    simp only [Aa,Ab] at e
    obtain⟨rfl,rfl⟩:=e
    exact xK hw (UZ (fun _=>rfl) hp hq) hd rfl ha
   ·cases e
  ·rename_i hw
   simp only [Aa,Ab] at e
   obtain⟨rfl,rfl⟩:=e
   exact Fv hw hd rfl ha
  ·cases e)
 exact this rfl
theorem VZ.nj {l:List Oper} {nw:Bool} {q:Prop} {r:AV} (hw:Qu l σ o=some true) (hb:UY E.P nw h (ev σ) o.op=some (q,r)) (hq:q) (hd:Qs E.N o.dst=true):VZ E h l σ o r:=by
 refine⟨hd,fun σ' a w Q hs s=> ?_⟩
 rw [iP (s.wanted ((Xg hs).trans hw))]
 obtain⟨v,aR,hr⟩:=UZ (fun _=>rfl) hb hq (QH E.C h w) w a.eval QH.dM (fun x hx=>by rw [←XD hx hs];exact QN s x) s.heap
 unfold Oper.wp
 rw [aR o rfl]
 exact s.put hd hr
theorem QtO {l rest:List Oper} {n:Nat} (nw:Bool) (hd:Qs E.N o.dst=true) (k:∀R:Option (Prop×Sl)→Prop,(∀q σ',q→YO E h l K n rest σ'→R (some (q,σ')))→R (Za E.P nw h l o σ)):YO E h l K (n+1) (o::rest) σ:=by
 have:=k (fun x=>x=Za E.P nw h l o σ→YO E h l K (n+1) (o::rest) σ) (fun q σ' hq ha e=>by
  unfold Za at e
  split at e
  ·rename_i hw
   split at e
   ·rename_i q1 r hp
    simp only [Aa,Ab] at e
    obtain⟨rfl,rfl⟩:=e
    exact Uk (VZ.nj hw hp hq hd) ha
   ·cases e
  ·rename_i hw
   simp only [Aa,Ab] at e
   obtain⟨rfl,rfl⟩:=e
   exact Uk (VZ.skip hw hd) ha
  ·cases e)
 exact this rfl
end
attribute [go_sem] yw yx UY Za xX OV ug WN qz sV CV.aX iB OE j6 wQ List.set_cons_zero List.set_cons_succ Bool.and_true Bool.true_and Bool.and_self and_true true_and and_self List.all_cons List.all_nil
section
variable {E : Vj} {K : List It} {σ : Sl} {h : Qa} {all l rest : List Oper} {o : Oper}
theorem nQ (hd:Qs E.N o.dst=true) (k:∀R:Option (Prop×Sl)→Prop,(∀q σ',aw E (.ops all rest::K) σ' h→(hq:q:=by(try simp only [XM])<;>and_intros<;>first|exact True.intro|omega|trivial)→R (some (q,σ')))→R (Za E.P true h all o σ)):aw E (.ops all (o::rest)::K) σ h:=
 qE true hd fun R r=>k R fun q σ' ha hq=>r q σ' hq ha
theorem nT {n:Nat} (hd:Qs E.N o.dst=true) (k:∀R:Option (Prop×Sl)→Prop,(∀q σ',YO E h l K n rest σ'→(hq:q:=by(try simp only [XM])<;>and_intros<;>first|exact True.intro|omega|trivial)→R (some (q,σ')))→R (Za E.P true h l o σ)):YO E h l K (n+1) (o::rest) σ:=
 QtO true hd fun R r=>k R fun q σ' ha hq=>r q σ' hq ha
end
end
section
def gs (og:Option Nat) (s n:Nat):CV:=match og with
 |none=>.ab
 |some g=>.aO g s 0 n
def gh (og:Option Nat) (ty:TypeId) (m:Nat) (f:Nat→CV):Qa:=match og with
 |none=>[]
 |some g=>[(g,.cells ty m f)]
@[go_sem] theorem QqX (g s n:Nat):oc (gs (some g) s n)=some n:=rfl
theorem wR {og:Option Nat} {s n:Nat} (h:og=none→n=0):oc (gs og s n)=some n:=by
 cases og with
 |none=>rw [h rfl];rfl
 |some g=>rfl
section
variable {E : Vj} {K : List It} {σ σ' : Sl} {h : Qa} {all rest : List Oper} {o o1 o2 : Oper}
theorem YN.uK {S:Bool→Nat→Prop} {w:World} {g n:Nat} {ty:TypeId} {f f':Nat→CV} (hf:∀j,j<n→f j=f' j) (hr:YN S w g (.cells ty n f)):YN S w g (.cells ty n f'):=by
 obtain⟨cs,hb,hn,hj⟩:=hr
 exact⟨cs,hb,hn,fun j bp=>by rw [←hf j bp];exact hj j bp⟩
theorem QY {g n:Nat} {ty:TypeId} {f f':Nat→CV} {h:Qa} (hf:∀j,j<n→f j=f' j) (k:aw E K σ ((g,.cells ty n f')::h)):aw E K σ ((g,.cells ty n f)::h):=fun a w s=>by
 refine k a w ⟨s.size,s.defers,s.bC,fun g' o' hm=> ?_,s.nodup,s.keys,s.frame⟩
 rcases Lb.1 hm with e|hm
 ·injection e with e1 e2
  subst e1 e2
  exact YN.uK hf (s.heap _ _ (Lf ..))
 ·exact s.heap g' o' (Lm _ hm)
theorem Qa.j5:∀{h:Qa} {g:Nat} {o:XS} {g0:Nat},g0≠g→Qa.del ((g0,o)::h) g=(g0,o)::h.del g:=by
 intro h g o g0 aK
 simp [Qa.del,aK]
theorem Qa.eC:∀{pre:Qa} {g:Nat} {o:XS},g∉pre.keys→Qa.del (pre++[(g,o)]) g=pre
 |[],g,o,_=>by simp [Qa.del]
 |(g0,o0)::pre,g,o,hn=>by
  simp only [Qa.keys,Ld,Lb,not_or] at hn
  rw [Lq,Qa.j5 (fun e=>hn.1 e.symm),Qa.eC hn.2]
theorem Qa.dc:∀{pre:Qa} {g:Nat} {o:XS},g∉pre.keys→Qa.get (pre++[(g,o)]) g=some o
 |[],g,o,_=>by simp [Qa.get]
 |(g0,o0)::pre,g,o,hn=>by
  simp only [Qa.keys,Ld,Lb,not_or] at hn
  rw [Lq]
  simp only [Qa.get,fun e:g0=g=>hn.1 e.symm,if_false]
  rw [iN (fun e:g0=g=>hn.1 e.symm)]
  exact Qa.dc hn.2
theorem YY (k:h.keys.Nodup→aw E K σ h):aw E K σ h:=fun a w s=>k s.nodup a w s
theorem QT {t e size bytes n d1 s:Nat} {z:List CV} {og:Option Nat} {f f':Nat→CV} {pre:Qa} {x:Operand} {v:AV} (Ex:o1.op=.buildSlice t 1 #[(0,x)]) (ko:o2.op=.call {callee:=.builtin .append,args:= #[.tmp s,.tmp d1],argTypes:= #[t,t]})
  (r8:Qu all σ o1=some true) (kg:o2.guard=none) (zo:o1.dst=some d1) (hdk:Qs E.N o1.dst=true) (lH:Qs E.N o2.dst=true)
  (ht:QP E.P t=some (e,size,bytes)) (hz:Qk E.P e=some z) (aY:z.length=size) (bw:0<size) (bF:size≤16777216)
  (hs:σ.get s=.c (gs og size n)) (hsd:s≠d1) (ax:og=none→n=0) (hx:ev σ x=v) (bo:OV v=true) (js:v.cells.length=size) (hh:h=pre++gh og e (n*size) f)
  (dn:n+1≤maxLen) (ed:(n+1)*bytes≤140737488355328) (hf:∀j,j<(n+1)*size→Xs f (n*size) (ao v.cells) j=f' j)
  (kk:∀g',g'∉pre.keys→aw E (.ops all rest::K) ((σ.set d1 (.c .any)).az o2.dst (.c (gs (some g') size (n+1)))) (pre++gh (some g') e ((n+1)*size) f')):aw E (.ops all (o1::o2::rest)::K) σ h:=by
 subst hh
 obtain⟨Rz,z8⟩:=WM bo
 have cW:v.flat=true:=by
  cases v with
  |aF xs=>exact absurd rfl (Rz xs)
  |c x=>rfl
  |agg xs=>rfl
 refine Qw (xs:=[x]) (cells:=v.cells) Ex r8 hdk ht (by rw [hz];rfl) rfl om om (by intro y hy;simp only [Lv] at hy;subst hy;rw [hx];exact⟨cW,z8,js⟩) (by simp [hx]) fun gt fV=> ?_
 rw [zo]
 have cZ:∀jR,Qu all jR o2=some true:=fun jR=>by unfold Qu;rw [kg]
 have oD:ev (Sl.az σ (some d1) (.c (.aO gt size 0 1))) (.tmp d1)=.c (.aO gt size 0 1):=by simp [ev,Sl.az,Sl.bL]
 have oE:ev (Sl.az σ (some d1) (.c (.aO gt size 0 1))) (.tmp s)=.c (gs og size n):=by simp only [ev,Sl.az,Sl.bL,iN (Ne.symm hsd)];exact hs
 have cl:∀h0:Qa,Src ((gt,.cells e (1*size) (ao v.cells))::h0) size (.aO gt size 0 1) 1 (ao v.cells):=fun h0=>by
  refine .aO (f':=ao v.cells) (m:=1*size) (ty:=e) (by simp [Qa.get]) om (fun j _=>by rw [Nz])
 have hle:∀(A B:AV) (g':Nat),Sl.le ((σ.set d1 (.c .any)).az o2.dst B) ((Sl.az σ (some d1) A).az o2.dst B):=fun A B g' t'=>by
  rw [YE,YE]
  by_cases e1:o2.dst=some t'
  ·rw [iP e1,iP e1];exact .inr rfl
  ·rw [iN e1,iN e1]
   simp only [Sl.az,Sl.bL]
   by_cases e2:d1=t'
   ·rw [iP e2];exact .inl rfl
   ·rw [iN e2,iN e2];exact .inr rfl
 have hkp:∀g':Nat,g'∉Qa.keys ((gt,.cells e (1*size) (ao v.cells))::pre)→g'∉pre.keys:=fun g' ch hm=>ch (by simp only [Qa.keys,Ld,Lb];exact .inr hm)
 have mQ:∀g':Nat,(pre++gh (some g') e ((n+1)*size) f').Sublist ((pre++[(g',.cells e ((n+1)*size) f')])):=fun g'=>Lr _
 cases og with
 |none=>
  have jo:n=0:=ax rfl
  subst jo
  refine UX (cx:=.aO gt size 0 1) (k:=1) (f2:=ao v.cells) ko (cZ _) lH ht hz aY bw oE oD (cl _) om om om fun g' ch=> ?_
  refine QY (f':=f') (fun j hj=> ?_) ?_
  ·have:=hf j om
   rw [←this];simp [Xs]
  ·have dx:g'∉pre.keys:=fun hm=>ch (by simp only [Qa.keys,Ld,Lb,gh,Lp];exact .inr hm)
   refine Qj (h':=(gt,.cells e (1*size) (ao v.cells))::(pre++[(g',.cells e (1*size) f')])) ?_ ?_
   ·have:(pre++gh none e (0*size) f)=pre:=by simp [gh]
    rw [this]
    refine(List.Perm.swap _ _ _).trans (List.Perm.cons _ ?_)
    exact(List.perm_append_singleton _ _).symm
   ·refine Xa (hle _ _ g') (List.Sublist.cons _ (Lr _)) ?_
    have:=kk g' dx
    simpa [gh,gs] using this
 |some g=>
  refine YY fun bf=> ?_
  have kn:g∉pre.keys:=fun hm=>by
   simp only [Qa.keys,gh,Ld,List.map_append,List.map_nil,List.nodup_cons] at bf
   have:=(List.nodup_append.1 bf.2).2.2 g hm g (by simp)
   exact this rfl
  have mN:gt≠g:=fun e=>fV (by subst e;simp [Qa.keys,gh])
  refine YA (cx:=.aO gt size 0 1) (k:=1) (f2:=ao v.cells) (g:=g) (m:=n*size) (f:=f) (h2:=(gt,.cells e (1*size) (ao v.cells))::pre) ko (cZ _) lH ht hz aY bw oE ?_ (Ac _) oD (cl _) ?_ om dn ed ?_ fun g' ch=> ?_
  ·show Qa.get ((gt,_)::(pre++[(g,_)])) g=_
   simp only [Qa.get,iN mN]
   exact Qa.dc kn
  ·intro j hj
   have bp:j<v.cells.length:=by omega
   rw [Of v.cells j v.cells[j] (Li bp)]
   exact List.all_eq_true.1 z8 _ (Le bp)
  ·show Qa.del ((gt,_)::(pre++[(g,_)])) g=_
   rw [Qa.j5 mN,Qa.eC kn]
  ·refine QY (f':=f') hf ?_
   refine Qj (h':=(gt,.cells e (1*size) (ao v.cells))::(pre++[(g',.cells e ((n+1)*size) f')])) ?_ ?_
   ·refine(List.Perm.swap _ _ _).trans (List.Perm.cons _ ?_)
    exact(List.perm_append_singleton _ _).symm
   ·refine Xa (hle _ _ g') (List.Sublist.cons _ (Lr _)) ?_
    exact kk g' (hkp g' ch)
theorem Qvg {pre:Qa} {og:Option Nat} {e s n:Nat} {f f':Nat→CV} (ax:og=none→n=0) (hn:∀g,og=some g→g∉pre.keys) (hf:∀j,j<n*s→fe (pre++gh og e (n*s) f) (f j) (f' j)):fe (pre++gh og e (n*s) f) (gs og s n) (.row false s n f'):=by
 cases og with
 |none=>rw [ax rfl];exact .ab
 |some g=>exact .aO (Qa.dc (hn g rfl)) om (fun j hj=>by rw [Nz];exact hf j hj)
theorem uh {zs:List Nat} {n:Nat} (hn:zs.length=n) (x:Nat):∀j,j<(n+1)*1→Xs (wf zs) (n*1) (ao [.int .u32 (x:Int)]) j=wf (zs++[x]) j:=fun j hj=>by
 subst hn
 unfold Xs
 by_cases h:j<zs.length*1
 ·rw [iP h]
  show CV.int .u32 (zs.getD j 0:Nat)=CV.int .u32 ((zs++[x]).getD j 0:Nat)
  rw [Lg,Lg,List.getElem?_append_left om]
 ·have:j=zs.length:=by omega
  subst this
  rw [iN h]
  show ao [CV.int .u32 (x:Int)] (zs.length-zs.length*1)=CV.int .u32 ((zs++[x]).getD zs.length 0:Nat)
  rw [Ad,Nat.sub_self,Lg,List.getElem?_append_right (Ac _),Nat.sub_self]
  rfl
theorem xY {og:Option Nat} {e n:Nat} {zs:List Nat} (ax:og=none→n=0) (hl:zs.length=n):fe (gh og e n (wf zs)) (gs og 1 n) (ws false zs):=by
 subst hl
 have:=Qvg (pre:=[]) (og:=og) (e:=e) (s:=1) (n:=zs.length) (f:=wf zs) (f':=fun j=>.int .u32 (zs.getD j 0:Nat)) ax (fun _ _=>by simp [Qa.keys]) (fun j _=>.refl _)
 simpa only [Ad,Ln] using this
def lf {α:Type} (s:Nat) (c:α→List CV) (d:α) (xs:List α) (j:Nat):CV:=ao (c (xs.getD (j/s) d)) (j%s)
theorem Q9 {α:Type} {s:Nat} {c:α→List CV} {d:α} {xs:List α} {i k:Nat} (hk:k<s):lf s c d xs (i*s+k)=ao (c (xs.getD i d)) k:=by
 unfold lf
 rw [Nc i s,Nat.mul_add_div om,Nat.mul_add_mod,Nat.div_eq_of_lt hk,Nat.mod_eq_of_lt hk,Nat.add_zero]
theorem YR {α:Type} {s n:Nat} {c:α→List CV} {d:α} {xs:List α} (hn:xs.length=n) (v:α) (hs:0<s):∀j,j<(n+1)*s→Xs (lf s c d xs) (n*s) (ao (c v)) j=lf s c d (xs++[v]) j:=fun j hj=>by
 subst hn
 unfold Xs
 by_cases h:j<xs.length*s
 ·rw [iP h]
  unfold lf
  have:j/s<xs.length:=(Nat.div_lt_iff_lt_mul hs).2 h
  rw [Lg,Lg,List.getElem?_append_left this]
 ·rw [iN h]
  obtain⟨k,rfl⟩:∃k,j=xs.length*s+k:=⟨j-xs.length*s,by omega⟩
  have hk:k<s:=by rw [Nat.succ_mul] at hj;omega
  rw [Q9 hk,Nat.add_sub_cancel_left,Lg,List.getElem?_append_right (Ac _),Nat.sub_self]
  rfl
theorem BJ:∀(cs:List CV) (f:Nat→CV) (k j:Nat),(j<k∨k+cs.length≤j)→Vl f k cs j=f j
 |[],f,k,j,_=>rfl
 |c::cs,f,k,j,h=>by
  simp only [Vl,Lc] at h⊢
  rw [BJ cs _ (k+1) j om,iN om]
theorem I4:∀(cs:List CV) (f:Nat→CV) (k j:Nat),j<cs.length→Vl f k cs (k+j)=ao cs j
 |[],f,k,j,h=>by simp at h
 |c::cs,f,k,0,h=>by
  simp only [Vl,ao,Nat.add_zero]
  rw [BJ cs _ (k+1) k om,iP rfl]
 |c::cs,f,k,j+1,h=>by
  simp only [Vl,ao]
  rw [show k+(j+1)=(k+1)+j from by omega]
  exact I4 cs _ (k+1) j (by simpa using h)
end
end
section
structure Al where
 i:Nat
 d:Nat
 rf:Nat→AV
 ob:XS
def Up:List Al→(Nat→Bool)→(Nat→Nat)→Sl→Sl
 |[],_,_,σ=>σ
 |x::al,L,γ,σ=>if L x.i then(Up al L γ σ).set x.d (x.rf (γ x.i)) else Up al L γ σ
def cO:List Al→(Nat→Bool)→(Nat→Nat)→Qa
 |[],_,_=>[]
 |x::al,L,γ=>if L x.i then(γ x.i,x.ob)::cO al L γ else cO al L γ
theorem OX {L L':Nat→Bool} {γ γ':Nat→Nat} {σ:Sl}:∀{al:List Al},(∀x∈al,L x.i=L' x.i∧γ x.i=γ' x.i)→Up al L γ σ=Up al L' γ' σ
 |[],_=>rfl
 |x::al,h=>by
  have h1:=h x (Lf ..)
  simp only [Up,h1.1,h1.2,OX (al:=al) fun y hy=>h y (Lm _ hy)]
theorem U0 {L L':Nat→Bool} {γ γ':Nat→Nat}:∀{al:List Al},(∀x∈al,L x.i=L' x.i∧γ x.i=γ' x.i)→cO al L γ=cO al L' γ'
 |[],_=>rfl
 |x::al,h=>by
  have h1:=h x (Lf ..)
  simp only [cO,h1.1,h1.2,U0 (al:=al) fun y hy=>h y (Lm _ hy)]
theorem Uq {L:Nat→Bool} {γ:Nat→Nat} {σ:Sl} {t:Nat}:∀{al:List Al},(∀x∈al,L x.i=true→x.d≠t)→(Up al L γ σ).get t=σ.get t
 |[],_=>rfl
 |x::al,h=>by
  have ih:=Uq (L:=L) (γ:=γ) (σ:=σ) (t:=t) (al:=al) fun y hy=>h y (Lm _ hy)
  simp only [Up]
  split
  ·rename_i hL
   rw [Sl.bL,iN (h x (Lf ..) hL)];exact ih
  ·exact ih
theorem Oh {L:Nat→Bool} {γ:Nat→Nat} {σ:Sl} {x:Al}:∀{al:List Al},x∈al→L x.i=true→(∀y∈al,y.d=x.d→y=x)→(Up al L γ σ).get x.d=x.rf (γ x.i)
 |[],hm,_,_=>by simp at hm
 |y::al,hm,hL,hu=>by
  by_cases e:y.d=x.d
  ·have:=hu y (Lf ..) e
   subst this
   simp only [Up,hL,if_true,Sl.bL]
  ·have lK:x∈al:=(Lb.1 hm).resolve_left (fun h=>e (by rw [h]))
   have ih:=Oh (γ:=γ) (σ:=σ) lK hL fun z hz=>hu z (Lm _ hz)
   simp only [Up]
   split
   ·rw [Sl.bL,iN e];exact ih
   ·exact ih
theorem Hg {L:Nat→Bool} {γ:Nat→Nat} {x:Al} {g:Nat}:∀{al:List Al},x∈al→L x.i=false→(al.map (·.i)).Nodup→
  (cO al (fun j=>if j=x.i then true else L j) (fun j=>if j=x.i then g else γ j)).Perm ((g,x.ob)::cO al L γ)
 |[],hm,_,_=>by simp at hm
 |y::al,hm,hL,hn=>by
  simp only [Ld,List.nodup_cons] at hn
  by_cases e:y.i=x.i
  ·have vQ:x=y:=by
    rcases Lb.1 hm with h|h
    ·exact h
    ·exact absurd (List.mem_map.2 ⟨x,h,rfl⟩) (e▸hn.1)
   subst vQ
   have:cO al (fun j=>if j=x.i then true else L j) (fun j=>if j=x.i then g else γ j)=cO al L γ:=U0 fun z hz=>by
    have aK:z.i≠x.i:=fun h=>hn.1 (List.mem_map.2 ⟨z,hz,h⟩)
    simp [aK]
   simp only [cO,if_true,hL,this]
   exact .refl _
  ·have lK:x∈al:=(Lb.1 hm).resolve_left (fun h=>e (by rw [h]))
   have ih:=Hg (L:=L) (γ:=γ) (g:=g) lK hL hn.2
   simp only [cO,e,if_false]
   split
   ·exact(List.Perm.cons _ ih).trans (List.Perm.swap _ _ _)
   ·exact ih
theorem St.perm {N:Nat} {C:ZX} {σ:Sl} {h h':Qa} {a:Act} {w:World} (hp:h.Perm h') (s:St N C σ h a w):St N C σ h' a w:=by
 have eV:∀b,b∈h.keys↔b∈h'.keys:=BH hp
 have kp:Yn (QH C h w) (QH C h' w) w w:=⟨fun t b hb=>⟨hb.1,hb.2.1,fun hm=>hb.2.2 ((eV b).2 hm)⟩,fun _ _ _=>rfl,fun _ _ e=>e⟩
 exact⟨s.size,s.defers,fun t=>VY.aT kp (s.bC t),fun g o hm=>YN.aT kp rfl (s.heap g o (hp.mem_iff.2 hm)),A9 hp s.nodup,fun g hg=>s.keys g ((eV g).2 hg),s.frame⟩
def pa (l:List Oper):Nat→Oper→Nat→Bool
 |0,o,j=>kG o j
 |k+1,o,j=>kG o j||o.after.any fun e=>Region.binds .any e&&(match l[e.on]? with|some p=>pa l k p j|none=>false)
def uz (l:List Oper) (n:Nat):Bool:=l.zipIdx.all fun(o,i)=>decide (i<n)||(List.range i).all fun j=>pa l 6 o j
section
variable {E : Vj} {K : List It} {σ σ' : Sl} {h : Qa} {l : List Oper} {o : Oper}
theorem VM {L:Nat→Bool} (bS:∀i o,l[i]?=some o→L i=true→∀e∈o.after,Region.binds .any e=true→L e.on=true):∀(k:Nat) (o:Oper) (j:Nat),(∀e∈o.after,Region.binds .any e=true→L e.on=true)→pa l k o j=true→L j=true
 |0,o,j,hp,he=>by
  obtain⟨e,D8,gn,hb⟩:=Ze he
  rw [←gn];exact hp e D8 hb
 |k+1,o,j,hp,he=>by
  simp only [pa,Bool.or_eq_true] at he
  rcases he with he|he
  ·obtain⟨e,D8,gn,hb⟩:=Ze he
   rw [←gn];exact hp e D8 hb
  ·rw [Array.any_eq_true] at he
   obtain⟨i,hi,h1⟩:=he
   simp only [Ba] at h1
   obtain⟨hb,h2⟩:=h1
   have hl:=hp _ (Array.getElem_mem hi) hb
   split at h2
   ·rename_i p hpp
    exact VM bS k p j (bS _ p hpp hl) h2
   ·cases h2
theorem FU {n:Nat} (ht:uz l n=true) {i:Nat} {o:Oper} (ho:l[i]?=some o) (hn:n≤i) {j:Nat} (hj:j<i):pa l 6 o j=true:=by
 unfold uz at ht
 rw [List.all_eq_true] at ht
 have:=ht (o,i) (by rw [List.mem_zipIdx_iff_getElem?];exact ho)
 simp only [Bool.or_eq_true,Dq,List.all_eq_true,List.mem_range] at this
 exact this.resolve_left om j hj
theorem Gg {n:Nat} (bo:Jd l=true) (ht:uz l n=true) {Q:Exit→Act→World→Prop}:∀(fuel i:Nat) (listed:Array Bool) (a:Act) (w:World),n≤i→i+fuel=l.length→listed.size=l.length→(∀j,j<l.length→listed.getD j false=decide (j<i))→
  wpList E.P l.toArray Q (l.drop i) a w→wpAny E.P .any l.toArray Q fuel listed a w
 |0,i,listed,a,w,_,hf,hs,hl,k=>by
  have:l.drop i=[]:=List.drop_eq_nil_of_le om
  rw [this] at k
  refine⟨?_,k⟩
  rw [List.eq_nil_iff_forall_not_mem]
  intro j hj
  obtain⟨h1,h2,_⟩:=(Yo hs).1 hj
  rw [hl j h1] at h2
  simp at h2
  omega
 |fuel+1,i,listed,a,w,hn,hf,hs,hl,k=>by
  have hi:i<l.length:=by omega
  have ho:l[i]?=some l[i]:=Li hi
  have bS:∀q o,l[q]?=some o→listed.getD q false=true→∀e∈o.after,Region.binds .any e=true→listed.getD e.on false=true:=fun q o hq bT e he hb=>by
   have fk:q<l.length:=(List.getElem?_eq_some_iff.1 hq).1
   rw [hl q fk] at bT
   have:=Uj bo hq he hb
   simp only [Dq] at bT
   rw [hl e.on om];simp;omega
  have bM:i∈Region.ready .any l.toArray listed:=(Yo hs).2 ⟨hi,by rw [hl i hi];simp,fun o fi e he hb=>by
   have:=Uj bo fi he hb
   rw [hl e.on om];simpa using this⟩
  refine⟨fun e=>by rw [e] at bM;simp at bM,fun j hj=> ?_⟩
  obtain⟨h1,h2,h3⟩:=(Yo hs).1 hj
  have dw:j=i:=by
   rw [hl j h1] at h2
   simp only [decide_eq_false_iff_not,Nat.not_lt] at h2
   rcases Nat.lt_or_ge i j with aD|eu
   ·have:=VM (L:=fun q=>listed.getD q false) bS 6 _ i (h3 _ (Li h1)) (FU ht (Li h1) om aD)
    simp only [hl i hi] at this
    simp at this
   ·omega
  subst dw
  rw [List.drop_eq_getElem_cons hi] at k
  unfold wpOp
  rw [show l.toArray[j]?=some l[j] from by simp [hi]]
  have ea:∀a w,wpList E.P l.toArray Q (l.drop (j+1)) a w→wpAny E.P .any l.toArray Q fuel (listed.setIfInBounds j true) a w:=fun a w k'=>
   Gg bo ht fuel (j+1) _ a w om om (by simpa using hs) (fun q hq=>by
    rw [aA om,hl q hq]
    by_cases h:q=j
    ·subst h;simp
    ·rw [iN h];congr 1;simp;omega) k'
  simp only [wpList] at k
  simp only
  split
  ·rename_i hw
   rw [iP hw] at k
   exact k.imp (Oper.wp_mono ea) id
  ·rename_i hw
   rw [iN hw] at k
   exact ea _ _ k
def Z4 (E:Vj) (h:Qa) (l:List Oper) (σ:Sl) (o:Oper) (r:AV):Prop:=
 Qs E.N o.dst=true∧∀(σ':Sl) (ext:Qa) (a:Act) (w:World) (Q:Exit→Act→World→Prop),(∀t∈looks l o,σ'.get t=σ.get t)→St E.N E.C σ' (ext++h) a w→
  if Region.wanted o (yielded l.toArray a.tmps) then o.wp E.P a w (fun a' w'=>St E.N E.C (σ'.az o.dst r) (ext++h) a' w') Q else r=.aF []
def Wu (E:Vj) (h:Qa) (l:List Oper) (σ:Sl) (o:Oper) (rf:Nat→AV) (ob:XS):Prop:=
 Qs E.N o.dst=true∧∀(σ':Sl) (ext:Qa) (a:Act) (w:World) (Q:Exit→Act→World→Prop),(∀t∈looks l o,σ'.get t=σ.get t)→St E.N E.C σ' (ext++h) a w→
  Region.wanted o (yielded l.toArray a.tmps)=true∧o.wp E.P a w (fun a' w'=>∃g,St E.N E.C (σ'.az o.dst (rf g)) ((g,ob)::(ext++h)) a' w') Q
inductive kB (E:Vj) (h:Qa) (l:List Oper):Nat→List (Oper×AV)→Sl→Sl→List Al→Prop
 |nil {i:Nat} {σ:Sl}:kB E h l i [] σ σ []
 |calm {i:Nat} {o:Oper} {r:AV} {ps:List (Oper×AV)} {σ σ':Sl} {al:List Al}:Z4 E h l σ o r→kB E h l (i+1) ps (σ.az o.dst r) σ' al→kB E h l i ((o,r)::ps) σ σ' al
 |new {i d:Nat} {o:Oper} {rf:Nat→AV} {ob:XS} {ps:List (Oper×AV)} {σ σ':Sl} {al:List Al}:o.dst=some d→Wu E h l σ o rf ob→kB E h l (i+1) ps (σ.az o.dst (.c .any)) σ' al→kB E h l i ((o,.c .any)::ps) σ σ' (⟨i,d,rf,ob⟩::al)
theorem Gh:∀(ps:List (Oper×AV)) (n:Nat) (σ:Sl),br ps ((List.range n).map (fun _=>false)) σ=σ:=by
 intro ps
 induction ps with
 |nil=>intro n σ;simp [br]
 |cons p ps qg=>
  intro n σ
  cases n with
  |zero=>simp [br]
  |succ n=>
   obtain⟨q,r⟩:=p
   simp only [List.range_succ_eq_map,Ld,List.map_map,br]
   exact qg n σ
theorem kB.at_ {i:Nat} {ps:List (Oper×AV)} {al:List Al} (d:kB E h l i ps σ σ' al):∀(j:Nat) (o:Oper) (r:AV),ps[j]?=some (o,r)→
  (Z4 E h l (br ps ((List.range ps.length).map fun q=>decide (q<j)) σ) o r∧∀x∈al,x.i≠i+j)∨
  (r=.c .any∧∃x∈al,x.i=i+j∧o.dst=some x.d∧Wu E h l (br ps ((List.range ps.length).map fun q=>decide (q<j)) σ) o x.rf x.ob):=by
 have low:∀{i:Nat} {ps:List (Oper×AV)} {σ σ':Sl} {al:List Al},kB E h l i ps σ σ' al→∀x∈al,i≤x.i:=by
  intro i ps σ σ' al d
  induction d with
  |nil=>intro x hx;simp at hx
  |calm _ _ ih=>intro x hx;have:=ih x hx;omega
  |new _ _ _ ih=>
   intro x hx
   rcases Lb.1 hx with rfl|hx
   ·exact Ac _
   ·have:=ih x hx;omega
 induction d with
 |nil=>intro j o r hp;simp at hp
 | @calm i o' r' ps σ σ' al hc hd ih=>
   intro j o r hp
   simp only [Lc,List.range_succ_eq_map,Ld,List.map_map,br]
   cases j with
   |zero=>
    simp only [List.getElem?_cons_zero,Aa,Ab] at hp
    obtain⟨rfl,rfl⟩:=hp
    left
    have e:((fun q=>decide (q<0))∘Nat.succ)=fun _=>false:=by funext q;simp [Function.comp]
    simp only [Nat.lt_irrefl,decide_false,e]
    exact⟨by rw [Gh];exact hc,fun x hx=>by have:=low hd x hx;omega⟩
   |succ j=>
    have:=ih j o r (by simpa using hp)
    have e:((fun q=>decide (q<j+1))∘Nat.succ)=fun q=>decide (q<j):=by funext q;simp [Function.comp]
    rw [e]
    rw [show i+(j+1)=i+1+j from by omega]
    simpa using this
 | @new i d o' rf ob ps σ σ' al Ew hn hd ih=>
   intro j o r hp
   simp only [Lc,List.range_succ_eq_map,Ld,List.map_map,br]
   cases j with
   |zero=>
    simp only [List.getElem?_cons_zero,Aa,Ab] at hp
    obtain⟨rfl,rfl⟩:=hp
    right
    have e:((fun q=>decide (q<0))∘Nat.succ)=fun _=>false:=by funext q;simp [Function.comp]
    simp only [Nat.lt_irrefl,decide_false,e]
    refine⟨trivial,_,Lf ..,rfl,Ew,?_⟩
    rw [Gh];exact hn
   |succ j=>
    have:=ih j o r (by simpa using hp)
    have e:((fun q=>decide (q<j+1))∘Nat.succ)=fun q=>decide (q<j):=by funext q;simp [Function.comp]
    rw [e]
    rw [show i+(j+1)=i+1+j from by omega]
    rcases this with ⟨h1,h2⟩|⟨h1,x,hx,h2⟩
    ·left
     refine⟨by simpa using h1,fun x hx=> ?_⟩
     rcases Lb.1 hx with rfl|hx
     ·simp only;omega
     ·exact h2 x hx
    ·right
     exact⟨h1,x,Lm _ hx,by simpa using h2⟩
theorem kB.end_ {i:Nat} {ps:List (Oper×AV)} {al:List Al} (d:kB E h l i ps σ σ' al):σ'=br ps ((List.range ps.length).map fun _=>true) σ:=by
 induction d with
 |nil=>rfl
 |calm _ _ ih=>
  simp only [Lc,List.range_succ_eq_map,Ld,List.map_map,br,if_true]
  exact ih
 |new _ _ _ ih=>
  simp only [Lc,List.range_succ_eq_map,Ld,List.map_map,br,if_true]
  exact ih
theorem kB.al_ {i:Nat} {ps:List (Oper×AV)} {al:List Al} (d:kB E h l i ps σ σ' al):(∀x∈al,i≤x.i∧x.i<i+ps.length∧∃p,ps[x.i-i]?=some p∧p.1.dst=some x.d)∧(al.map (·.i)).Nodup:=by
 induction d with
 |nil=>exact⟨fun x hx=>by simp at hx,by simp⟩
 | @calm i o' r' ps σ σ' al hc hd ih=>
   refine⟨fun x hx=> ?_,ih.2⟩
   obtain⟨h1,h2,p,h3,h4⟩:=ih.1 x hx
   refine⟨by omega,by simp only [Lc];omega,p,?_,h4⟩
   rw [show x.i-i=(x.i-(i+1))+1 from by omega]
   simpa using h3
 | @new i d o' rf ob ps σ σ' al Ew hn hd ih=>
   refine⟨fun x hx=> ?_,?_⟩
   ·rcases Lb.1 hx with rfl|hx
    ·exact⟨Ac _,by simp,(o',.c .any),by simp,Ew⟩
    ·obtain⟨h1,h2,p,h3,h4⟩:=ih.1 x hx
     refine⟨by omega,by simp only [Lc];omega,p,?_,h4⟩
     rw [show x.i-i=(x.i-(i+1))+1 from by omega]
     simpa using h3
   ·simp only [Ld,List.nodup_cons]
    refine⟨fun hm=> ?_,ih.2⟩
    obtain⟨x,hx,he⟩:=List.mem_map.1 hm
    have:=(ih.1 x hx).1
    omega
theorem Qmt {n:Nat} {ps:List (Oper×AV)} {al:List Al} (bo:Jd l=true) (ht:uz l n=true) (hn:n≤l.length) (mR:ps.map (·.1)=l.take n) (d:kB E h l 0 ps σ σ' al) (bZ:∀x∈al,∀i o,i<n→l[i]?=some o→x.d∉looks l o) {Q:Exit→Act→World→Prop}
  (k:∀γ a w,St E.N E.C (Up al (fun _=>true) γ σ') (cO al (fun _=>true) γ++h) a w→wpList E.P l.toArray Q (l.drop n) a w):∀(u:Nat) (listed:Array Bool) (γ:Nat→Nat) (a:Act) (w:World),fx (fun j=>listed.getD j false) n=u→listed.size=l.length→
  (∀i o,l[i]?=some o→listed.getD i false=true→∀e∈o.after,Region.binds .any e=true→listed.getD e.on false=true)→(∀j,n≤j→j<l.length→listed.getD j false=false)→
  St E.N E.C (Up al (fun j=>listed.getD j false) γ (br ps (Kp n listed) σ)) (cO al (fun j=>listed.getD j false) γ++h) a w→wpAny E.P .any l.toArray Q (u+(l.length-n)) listed a w:=by
 have dJ:ps.length=n:=by have:=congrArg List.length mR;simp at this;omega
 have fM:∀(j:Nat) (p:Oper×AV),ps[j]?=some p→l[j]?=some p.1∧j<n:=by
  intro j p hp
  have hj:j<ps.length:=(List.getElem?_eq_some_iff.1 hp).1
  have h1:(ps.map (·.1))[j]?=some p.1:=by simp [hp]
  rw [mR,List.getElem?_take] at h1
  split at h1
  ·exact⟨h1,by omega⟩
  ·cases h1
 obtain⟨hal,bf⟩:=d.al_
 have oz:∀x∈al,x.i<n∧∃p,ps[x.i]?=some p∧p.1.dst=some x.d:=fun x hx=>by
  obtain⟨_,h2,p,h3,h4⟩:=hal x hx
  exact⟨by omega,p,by simpa using h3,h4⟩
 have oM:∀x∈al,∀(j:Nat) (p:Oper×AV),ps[j]?=some p→p.1.dst=some x.d→j=x.i:=fun x hx j p hp hd=>by
  obtain⟨p8,q,hq,mT⟩:=oz x hx
  rcases Nat.decEq j x.i with aK|he
  ·exact absurd hd ((ZE bo (fM j p hp).1 (fM x.i q hq).1 mT).2 (fun e=>aK e.symm))
  ·exact he
 have bG:∀x∈al,∀y∈al,y.d=x.d→y=x:=fun x hx y hy e=>by
  obtain⟨_,q,hq,mT⟩:=oz y hy
  have hi:=oM x hx y.i q hq (by rw [mT,e])
  have:∀(l:List Al),(l.map (·.i)).Nodup→x∈l→y∈l→y=x:=by
   intro l
   induction l with
   |nil=>intro _ hm;simp at hm
   |cons z l ih=>
    intro bf h1 h2
    simp only [Ld,List.nodup_cons] at bf
    rcases Lb.1 h1 with e1|m1<;>rcases Lb.1 h2 with e2|m2
    ·rw [e1,e2]
    ·exact absurd (List.mem_map.2 ⟨y,m2,by rw [hi,e1]⟩) bf.1
    ·exact absurd (List.mem_map.2 ⟨x,m1,by rw [←hi,e2]⟩) bf.1
    ·exact ih bf.2 m1 m2
  exact this al bf hx hy
 intro u
 induction u with
 |zero=>
  intro listed γ a w hu hs _ fO st
  have bQ:=wO n hu
  rw [Nz]
  refine Gg bo ht (l.length-n) n listed a w (Ac _) om hs (fun j hj=> ?_) (k γ a w ?_)
  ·rcases Nat.lt_or_ge j n with h1|h1
   ·rw [bQ j h1];simp [h1]
   ·rw [fO j h1 hj];simp;omega
  ·have e:Kp n listed=(List.range ps.length).map fun _=>true:=by
    unfold Kp
    rw [dJ]
    exact List.map_congr_left fun j hj=>bQ j (by simpa using hj)
   have hc:∀x∈al,(fun j=>listed.getD j false) x.i=(fun _=>true) x.i∧γ x.i=γ x.i:=fun x hx=>⟨bQ x.i (oz x hx).1,rfl⟩
   rw [d.end_,←e,←OX (L:=fun j=>listed.getD j false) (L':=fun _=>true) (γ:=γ) (γ':=γ) hc,←U0 (L:=fun j=>listed.getD j false) (L':=fun _=>true) (γ:=γ) (γ':=γ) hc]
   exact st
 |succ u ih=>
  intro listed γ a w hu hs bS fO st
  rw [show u+1+(l.length-n)=(u+(l.length-n))+1 from by omega]
  obtain⟨j0,kL,pR,nK⟩:=wT (L:=fun j=>listed.getD j false) n om
  have bM:j0∈Region.ready .any l.toArray listed:=(Yo hs).2 ⟨by omega,pR,fun o ho e he hb=>nK _ (Uj bo ho he hb)⟩
  refine⟨fun e=>by rw [e] at bM;simp at bM,fun i hi=> ?_⟩
  obtain⟨h1,h2,h3⟩:=(Yo hs).1 hi
  have ho:l[i]?=some l[i]:=Li h1
  have bV:i<n:=by
   rcases Nat.lt_or_ge i n with aD|eu
   ·exact aD
   ·have:=VM (L:=fun q=>listed.getD q false) bS 6 _ j0 (h3 _ ho) (FU ht ho eu (show j0<i from by omega))
    simp only [pR] at this
    cases this
  have fj:ps[i]?=some ps[i]:=Li om
  obtain⟨ig,_⟩:=fM i _ fj
  rw [ho] at ig
  injection ig with ig
  have iV:=d.at_ i ps[i].1 ps[i].2 fj
  rw [Nz] at iV
  have bW:∀t∈looks l ps[i].1,(Up al (fun j=>listed.getD j false) γ (br ps (Kp n listed) σ)).get t=(br ps ((List.range ps.length).map fun j=>decide (j<i)) σ).get t:=by
   intro t lS
   rw [Uq fun x hx _ e=>bZ x hx i l[i] bV ho (by rw [ig,e];exact lS)]
   by_cases hex:∃(j:Nat) (p:Oper×AV),ps[j]?=some p∧j<i∧p.1.dst=some t
   ·obtain⟨j,p,hp,dw,ee⟩:=hex
    obtain⟨aB,ba⟩:=fM j p hp
    have bG:∀(j':Nat) (p':Oper×AV),j'≠j→ps[j']?=some p'→p'.1.dst≠some t:=fun j' p' aK jJ=>
     (ZE bo (fM j' p' jJ).1 aB ee).2 (fun e=>aK e.symm)
    obtain⟨e,he,gn,hb⟩:=Ze (((ZE bo (by rw [←ig];exact ho) aB ee).1 lS).1 dw)
    have oI:listed.getD j false=true:=by rw [←gn];exact h3 _ ho e (by rw [ig];exact he) hb
    rw [XI ps _ σ t j p.1 p.2 hp (by rw [X3 ba,oI]) ee bG,
     XI ps _ σ t j p.1 p.2 hp (by simp [show j<ps.length from by omega,dw]) ee bG]
   ·rw [Xv ps _ σ t (fun j p hp hb ee=> ?_),Xv ps _ σ t (fun j p hp hb ee=> ?_)]
    ·have bp:j<ps.length:=(List.getElem?_eq_some_iff.1 hp).1
     simp [bp] at hb
     exact hex ⟨j,p,hp,hb,ee⟩
    ·obtain⟨aB,ba⟩:=fM j p hp
     rw [X3 ba] at hb
     injection hb with hb
     rcases Nat.lt_trichotomy j i with aD|heq|fV
     ·exact hex ⟨j,p,hp,aD,ee⟩
     ·subst heq;rw [h2] at hb;cases hb
     ·obtain⟨e,he,gn,cm⟩:=Ze (((ZE bo (by rw [←ig];exact ho) aB ee).1 lS).2 fV)
      have:=bS j _ aB hb e he cm
      rw [gn,h2] at this
      cases this
  have iH:i<listed.size:=by omega
  have vI:∀t,(br ps (Kp n (listed.setIfInBounds i true)) σ).get t=((br ps (Kp n listed) σ).az ps[i].1.dst ps[i].2).get t:=by
   intro t
   rw [YE]
   by_cases ee:ps[i].1.dst=some t
   ·rw [iP ee]
    have bG:∀(j':Nat) (p':Oper×AV),j'≠i→ps[j']?=some p'→p'.1.dst≠some t:=fun j' p' aK jJ=>
     (ZE bo (fM j' p' jJ).1 (fM i _ fj).1 ee).2 (fun e=>aK e.symm)
    exact XI ps _ σ t i ps[i].1 ps[i].2 fj (by rw [X3 bV,aA iH,iP rfl]) ee bG
   ·rw [iN ee]
    by_cases hex:∃(j:Nat) (p:Oper×AV),ps[j]?=some p∧listed.getD j false=true∧p.1.dst=some t
    ·obtain⟨j,p,hp,oI,dG⟩:=hex
     obtain⟨aB,ba⟩:=fM j p hp
     have bG:∀(j':Nat) (p':Oper×AV),j'≠j→ps[j']?=some p'→p'.1.dst≠some t:=fun j' p' aK jJ=>
      (ZE bo (fM j' p' jJ).1 aB dG).2 (fun e=>aK e.symm)
     rw [XI ps _ σ t j p.1 p.2 hp (by rw [X3 ba,aA iH];split<;>first|rfl|rw [oI]) dG bG,
      XI ps _ σ t j p.1 p.2 hp (by rw [X3 ba,oI]) dG bG]
    ·rw [Xv ps _ σ t (fun j p hp hb dG=> ?_),Xv ps _ σ t (fun j p hp hb dG=> ?_)]
     ·obtain⟨_,ba⟩:=fM j p hp
      rw [X3 ba] at hb
      injection hb with hb
      exact hex ⟨j,p,hp,hb,dG⟩
     ·obtain⟨_,ba⟩:=fM j p hp
      rw [X3 ba,aA iH] at hb
      injection hb with hb
      split at hb
      ·rename_i dw;subst dw;rw [fj] at hp;injection hp with hp;subst hp;exact ee dG
      ·exact hex ⟨j,p,hp,hb,dG⟩
  have hL:(fun j=>(listed.setIfInBounds i true).getD j false)=fun j=>if j=i then true else listed.getD j false:=funext fun j=>aA iH
  have cC:∀(γ':Nat→Nat) a' w',St E.N E.C (Up al (fun j=>if j=i then true else listed.getD j false) γ' (br ps (Kp n (listed.setIfInBounds i true)) σ)) (cO al (fun j=>if j=i then true else listed.getD j false) γ'++h) a' w'→wpAny E.P .any l.toArray Q (u+(l.length-n)) (listed.setIfInBounds i true) a' w':=by
   intro γ' a' w' iR
   refine ih _ γ' a' w' ?_ (by simpa using hs) (fun q o hq bT e he hb=> ?_) (fun j hj bp=> ?_) (by rw [hL];exact iR)
   ·rw [hL]
    have:=wU (L:=fun j=>listed.getD j false) n bV h2
    omega
   ·rw [aA iH] at bT⊢
    by_cases rQ:q=i
    ·subst rQ
     by_cases kK:e.on=q
     ·rw [iP kK]
     ·rw [iN kK];exact h3 o hq e he hb
    ·rw [iN rQ] at bT
     have:=bS q o hq bT e he hb
     by_cases kK:e.on=i
     ·rw [iP kK]
     ·rw [iN kK];exact this
   ·rw [aA iH,iN om];exact fO j hj bp
  unfold wpOp
  rw [show l.toArray[i]?=some l[i] from by simp [h1]]
  simp only
  rw [ig]
  rcases iV with ⟨⟨hd,hc⟩,fX⟩|⟨hany,x,hx,dL,zK,hd,hc⟩
  ·
   have cK:∀a' w',St E.N E.C ((Up al (fun j=>listed.getD j false) γ (br ps (Kp n listed) σ)).az ps[i].1.dst ps[i].2) (cO al (fun j=>listed.getD j false) γ++h) a' w'→wpAny E.P .any l.toArray Q (u+(l.length-n)) (listed.setIfInBounds i true) a' w':=by
    intro a' w' iR
    refine cC γ a' w' ?_
    have PG:∀x∈al,(fun j=>if j=i then true else listed.getD j false) x.i=(fun j=>listed.getD j false) x.i∧γ x.i=γ x.i:=fun x hx=>⟨by simp [fX x hx],rfl⟩
    rw [U0 (L:=fun j=>if j=i then true else listed.getD j false) (L':=fun j=>listed.getD j false) (γ:=γ) (γ':=γ) PG,OX (L:=fun j=>if j=i then true else listed.getD j false) (L':=fun j=>listed.getD j false) (γ:=γ) (γ':=γ) PG]
    refine St.jQ iR (fun t=>.inr ?_) (Lr _)
    by_cases hex:∃x∈al,listed.getD x.i false=true∧x.d=t
    ·obtain⟨x,hx,dp,rfl⟩:=hex
     rw [Oh hx dp (bG x hx),YE,iN (fun e=>fX x hx (oM x hx i _ fj e).symm),Oh hx dp (bG x hx)]
    ·have iZ:∀x∈al,(fun j=>listed.getD j false) x.i=true→x.d≠t:=fun x hx dp e=>hex ⟨x,hx,dp,e⟩
     rw [Uq iZ,vI,YE,YE,Uq iZ]
   have eG:=hc _ _ a w Q bW st
   split
   ·rename_i hw
    rw [iP hw] at eG
    exact .inl (Oper.wp_mono cK eG)
   ·rename_i hw
    rw [iN hw] at eG
    have st2:=st.put hd (r:=.aF []) (v:=undef) ⟨[],rfl,trivial⟩
    rw [←eG] at st2
    exact cK _ _ st2
  ·
   obtain⟨hw,dx⟩:=hc _ _ a w Q bW st
   rw [iP hw]
   refine .inl (Oper.wp_mono ?_ dx)
   rintro a' w' ⟨g,iR⟩
   refine cC (fun j=>if j=i then g else γ j) a' w' ?_
   have tr:listed.getD x.i false=false:=by rw [dL];exact h2
   have mQ:=Hg (L:=fun j=>listed.getD j false) (γ:=γ) (g:=g) hx tr bf
   rw [dL] at mQ
   refine St.perm (h:=((g,x.ob)::(cO al (fun j=>listed.getD j false) γ++h))) ?_ ?_
   ·rw [←Lq]
    exact(mQ.append_right h).symm
   refine St.jQ iR (fun t=>.inr ?_) (Lr _)
   by_cases zM:x.d=t
   ·subst zM
    have:=Oh (L:=fun j=>if j=i then true else listed.getD j false) (γ:=fun j=>if j=i then g else γ j) (σ:=br ps (Kp n (listed.setIfInBounds i true)) σ) hx (by simp [dL]) (bG x hx)
    rw [this,YE,iP zK]
    simp [dL]
   ·rw [YE,iN (fun e=>zM (by rw [zK] at e;injection e))]
    by_cases hex:∃y∈al,listed.getD y.i false=true∧y.d=t
    ·obtain⟨y,hy,dU,rfl⟩:=hex
     have lU:y.i≠i:=fun e=>by rw [e,h2] at dU;cases dU
     have e1:=Oh (L:=fun j=>if j=i then true else listed.getD j false) (γ:=fun j=>if j=i then g else γ j) (σ:=br ps (Kp n (listed.setIfInBounds i true)) σ) hy (by simp [lU,dU]) (bG y hy)
     rw [e1,Oh hy dU (bG y hy)]
     simp [lU]
    ·have iZ:∀y∈al,(fun j=>listed.getD j false) y.i=true→y.d≠t:=fun y hy dU e=>hex ⟨y,hy,dU,e⟩
     have vD:∀y∈al,(fun j=>if j=i then true else listed.getD j false) y.i=true→y.d≠t:=fun y hy dU e=>by
      by_cases lU:y.i=i
      ·have:y=x:=by
        obtain⟨_,q,hq,mT⟩:=oz y hy
        rw [lU,fj] at hq
        injection hq with hq
        rw [←hq,zK] at mT
        injection mT with mT
        exact bG x hx y hy mT.symm
       exact zM (by rw [←this];exact e)
      ·simp only [lU,if_false] at dU
       exact iZ y hy dU e
     rw [Uq vD,vI,YE,iN (fun e=>zM (by rw [zK] at e;injection e)),Uq iZ]
end
end
section
section
variable {E : Vj} {K : List It} {σ σ' : Sl} {h : Qa} {l : List Oper} {o : Oper}
theorem Z4.nj {nw:Bool} {q:Prop} {r:AV} (hw:Qu l σ o=some true) (hb:UY E.P nw h (ev σ) o.op=some (q,r)) (hq:q) (hd:Qs E.N o.dst=true):Z4 E h l σ o r:=by
 refine⟨hd,fun σ' ext a w Q hs s=> ?_⟩
 rw [iP (s.wanted ((Xg hs).trans hw))]
 obtain⟨v,aR,hr⟩:=UZ (fun _=>rfl) hb hq (QH E.C (ext++h) w) w a.eval QH.dM (fun x hx=>by rw [←XD hx hs];exact QN s x) (fun g ob hm=>s.heap g ob (List.mem_append_right _ hm))
 unfold Oper.wp
 rw [aR o rfl]
 exact s.put hd hr
theorem Z4.skip (hw:Qu l σ o=some false) (hd:Qs E.N o.dst=true):Z4 E h l σ o (.aF []):=by
 refine⟨hd,fun σ' ext a w Q hs s=> ?_⟩
 rw [iN (by rw [s.wanted ((Xg hs).trans hw)];simp)]
theorem Qa.kI:∀{ext h:Qa} {g:Nat} {ob:XS},(ext++h).keys.Nodup→h.get g=some ob→Qa.get (ext++h) g=some ob
 |[],h,g,ob,_,hg=>hg
 |(g0,o0)::ext,h,g,ob,hn,hg=>by
  simp only [Lq,Qa.keys,Ld,List.nodup_cons] at hn
  have aK:¬g0=g:=fun e=>hn.1 (by
   rw [e]
   exact List.mem_map.2 ⟨(g,ob),List.mem_append_right _ (Qa.get_mem hg),rfl⟩)
  simp only [Lq,Qa.get,iN aK]
  exact Qa.kI hn.2 hg
theorem fe.ext {ext h:Qa} (hn:(ext++h).keys.Nodup) {x y:CV} (le:fe h x y):fe (ext++h) x y:=by
 induction le with
 |refl x=>exact .refl x
 |any x=>exact .any x
 |ab=>exact .ab
 |row ht _ ih=>exact .row ht ih
 |aO hg hm _ ih=>exact .aO (Qa.kI hn hg) hm ih
 |eZ _ ih=>exact .eZ ih
theorem gQ.ext {ext h:Qa} (hn:(ext++h).keys.Nodup):∀{xs ys:List CV},gQ h xs ys→gQ (ext++h) xs ys
 |[],[],_=>trivial
 |_::_,_::_,le=>⟨le.1.ext hn,gQ.ext hn le.2⟩
 |[],_::_,le=>le.elim
 |_::_,[],le=>le.elim
theorem JT.ext {ext h:Qa} (hn:(ext++h).keys.Nodup):∀{xs ys:List AV},JT h xs ys→JT (ext++h) xs ys
 |[],[],_=>trivial
 |_::_,_::_,le=>⟨by
   rcases le.1 with l|l
   ·exact .c (l.ext hn)
   ·exact .agg (gQ.ext hn l),JT.ext hn le.2⟩
 |[],_::_,le=>le.elim
 |_::_,[],le=>le.elim
theorem Z4.call {f:FuncId} {xs:List Operand} {ts:Array TypeId} {args:List AV} {r:AV} (hf:Fa E.P f args r) (au:o.op=.call {callee:=.value (.func f),args:=xs.toArray,argTypes:=ts}) (hw:Qu l σ o=some true) (hd:Qs E.N o.dst=true)
  (le:JT h (xs.map (ev σ)) args):Z4 E h l σ o r:=by
 refine⟨hd,fun σ' ext a w Q hs s=> ?_⟩
 rw [iP (s.wanted ((Xg hs).trans hw))]
 have he:xs.map (ev σ')=xs.map (ev σ):=List.map_congr_left fun x hx=>XD (by rw [au];simp [Op.operands,Call.operands,hx]) hs
 unfold Oper.wp
 have aR:(execOp a.eval o).run E.P w=.ok (.enter f (xs.map a.eval).toArray) w:=by
  simp only [execOp,au,resolve,Act.eval,Deferred.ofValue,invoke,Sem.run_bind]
  have:=hf.1.run (#[]++(Array.map a.eval xs.toArray)++ #[]) w
  simp only [Sem.run_pure,Result.andThen_ok]
  rw [show((xs.map a.eval).toArray)=(#[]++(Array.map a.eval xs.toArray)++ #[]) from by simp]
  exact this
 rw [aR]
 show Calls _ _ _ _ _
 refine(hf.use s (by rw [he];exact le.ext s.nodup)).mono ?_
 rintro e w' ⟨v,rfl,hr,bd⟩
 exact(s.later bd).put hd hr
theorem Z4.ei {r:AV} (hw:Qu l σ o=some true) (hd:Qs E.N o.dst=true)
  (aR:∀σ' ext a w,(∀x∈o.op.operands,ev σ' x=ev σ x)→St E.N E.C σ' (ext++h) a w→∃v w',(execOp a.eval o).run E.P w=.ok (.value v) w'∧Fr (fun _=>False) w w'∧VY (QH E.C (ext++h) w') w' r v):Z4 E h l σ o r:=by
 refine⟨hd,fun σ' ext a w Q hs s=> ?_⟩
 rw [iP (s.wanted ((Xg hs).trans hw))]
 obtain⟨v,w',hr,bd,cR⟩:=aR σ' ext a w (fun x hx=>XD hx hs) s
 unfold Oper.wp
 rw [hr]
 exact(s.later bd).put hd cR
theorem Z4.empty {t e size bytes:Nat} (au:o.op=.buildSlice t 0 #[]) (hw:Qu l σ o=some true) (hd:Qs E.N o.dst=true) (ht:QP E.P t=some (e,size,bytes)):Z4 E h l σ o (.c .ab):=by
 refine Z4.ei hw hd fun σ' ext a w _ s=> ?_
 obtain⟨hu,inf,hi,bF,_⟩:=Q6 ht
 refine⟨.slice (some ⟨w.heap.size,0,none⟩) 0 0,w.alloc (.cells #[] e),?_,Fr.alloc _ _ _,_,rfl⟩
 simp only [execOp,au,Instr.buildSlice,Sem.run_bind,run_underlying hu,Result.andThen_ok,sizeOf,typeInfo,Sem.run_pure]
 simp only [run_program,hi,Result.andThen_ok,Sem.run_pure,bF,Nat.zero_mul]
 rw [iN om,iP trivial]
 simp only [Sem.run_bind,Sem.run_pure,Result.andThen_ok]
 have hf:Instr.fill (fun i=>some (i*size,size)) (Array.map (fun x=>(#[]:Array Value)[x%(#[]:Array Value).size]!) (Array.range 0)) (Array.map (fun x:Nat×Operand=>(x.1,a.eval x.2)) #[]).toList=some #[]:=by simp [Instr.fill]
 rw [hf]
 rfl
theorem Z4.copy {t e size bytes k:Nat} {z:List CV} {f2:Nat→CV} {s x:Operand} {cx:CV} (au:o.op=.call {callee:=.builtin .append,args:= #[s,x],argTypes:= #[t,t]}) (hw:Qu l σ o=some true) (hd:Qs E.N o.dst=true)
  (ht:QP E.P t=some (e,size,bytes)) (hz:Qk E.P e=some z) (aY:z.length=size) (bw:0<size) (hs:ev σ s=.c .ab) (hx:ev σ x=.c cx) (cl:Src h size cx k f2)
  (dn:k≤maxLen) (ed:k*bytes≤140737488355328):Z4 E h l σ o (.c (.row true size k f2)):=by
 refine Z4.ei hw hd fun σ' ext a w he st=> ?_
 have r1:=QN st s
 have r2:=QN st x
 rw [he s (by rw [au];simp [Op.operands,Call.operands]),hs] at r1
 rw [he x (by rw [au];simp [Op.operands,Call.operands]),hx] at r2
 obtain⟨A0,fJ⟩:=r1
 obtain⟨A,d,jr,hA⟩:=cl.cells (fun g ob hm=>st.heap g ob (List.mem_append_right _ hm)) r2
 rcases Nat.eq_zero_or_pos k with hk|hk
 ·subst hk
  refine⟨.slice A0 0 0,w,Ko au ?_,Fr.refl _ _,A0,0,rfl,Ac _,fun h0=>by simp at h0⟩
  rw [fJ,jr]
  exact Wo ht (Ac _)
 ·obtain⟨ad,rfl,hc⟩:=hA (Nat.mul_pos hk bw)
  obtain⟨news,bZ,cB⟩:=Kk (k*size) hc
  obtain⟨c',w',cI,aR,cm,dS,ib,jC,dx,bd⟩:=Fw (P:=E.P) (ty:=o.type) (d:=d) (A:=A0) ht hz aY bZ (fun j u e=>(cB j u e).1) hk dn ed
  have aD:w.heap.size<w'.heap.size:=(Array.getElem?_eq_some_iff.1 cm).1
  have lM:w.heap.size∉(ext++h).keys:=fun hm=>Nat.lt_irrefl _ (st.jZ hm)
  have kp:Yn (QH E.C (ext++h) w) (QH E.C (ext++h) w') w w':=
   ⟨fun t b hb=>⟨hb.1,Ae hb.2.1 bd.size,hb.2.2⟩,fun t b hb=>bd.block b hb.2.1 (fun x=>x),bd.has⟩
  refine⟨_,w',Ko au (by rw [fJ,jr];exact aR),bd,_,c',rfl,ib,fun _=>⟨_,rfl,⟨.inr st.frame.size,aD,lM⟩,fun j bp=> ?_⟩⟩
  have hl:j<news.length:=by omega
  refine⟨news[j],?_,(cB _ _ (Li hl)).2.aT kp⟩
  rw [Zr,YX cm,Nz,dx j bp]
  exact Li hl
theorem Wu.ei {rf:Nat→AV} {ob:XS} (hw:Qu l σ o=some true) (hd:Qs E.N o.dst=true)
  (aR:∀σ' ext a w,(∀x∈o.op.operands,ev σ' x=ev σ x)→St E.N E.C σ' (ext++h) a w→∃v w',(execOp a.eval o).run E.P w=.ok (.value v) w'∧Fr (fun _=>False) w w'∧w.heap.size<w'.heap.size∧
   YN (QH E.C ((w.heap.size,ob)::(ext++h)) w') w' w.heap.size ob∧VY (QH E.C ((w.heap.size,ob)::(ext++h)) w') w' (rf w.heap.size) v):Wu E h l σ o rf ob:=by
 refine⟨hd,fun σ' ext a w Q hs s=>⟨s.wanted ((Xg hs).trans hw),?_⟩⟩
 obtain⟨v,w',hr,bd,aD,ho,cR⟩:=aR σ' ext a w (fun x hx=>XD hx hs) s
 unfold Oper.wp
 rw [hr]
 exact⟨w.heap.size,(s.new rfl bd aD ho).put hd cR⟩
theorem Wu.make {t e size bytes n c:Nat} {z:List CV} {xl xc:Operand} {kl kc:IntKind} {nl nc:Int} (au:o.op=.makeSlice t xl xc) (hw:Qu l σ o=some true) (hd:Qs E.N o.dst=true) (ht:QP E.P t=some (e,size,bytes))
  (hz:Qk E.P e=some z) (aY:z.length=size) (bw:0<size) (hl:ev σ xl=.c (.int kl nl)) (hc:ev σ xc=.c (.int kc nc)) (hn:nl=n) (nJ:nc=c) (jq:n≤c) (ed:bytes*c≤281474976710656) (DZ:c≤9223372036854775807):
  Wu E h l σ o (fun g=>.c (.aO g size 0 n)) (.cells e (c*size) (fun j=>ao z (j%size))):=by
 refine Wu.ei hw hd fun σ' ext a w he s=> ?_
 obtain⟨hu,inf,hi,bF,cY⟩:=Q6 ht
 obtain⟨i',zv,hi',fQ,rfl⟩:=Yt hz
 rw [hi] at hi'
 injection hi' with hi'
 subst hi'
 have h1:a.eval xl=.int kl n:=by have:=QN s xl;rw [he xl (by rw [au];simp [Op.operands]),hl,hn] at this;exact this
 have h2:a.eval xc=.int kc c:=by have:=QN s xc;rw [he xc (by rw [au];simp [Op.operands]),hc,nJ] at this;exact this
 have cm:(inf.bytes:Int)*(c:Int)≤281474976710656:=by
  have h:((inf.bytes*c:Nat):Int)≤281474976710656:=by rw [cY];omega
  rwa [Int.natCast_mul] at h
 have hr:=run_make (P:=E.P) w t e inf zv hu hi fQ kl kc n c om om cm om
 simp only [Int.toNat_natCast] at hr
 refine⟨.slice (some ⟨w.heap.size,0,none⟩) n c,w.alloc (.cells (madeCells zv.cells (c*inf.size)) e),?_,Fr.alloc _ _ _,by simp,?_,?_⟩
 ·simp only [execOp,au,h1,h2,Sem.run_bind,hr,Result.andThen_ok]
  rfl
 ·refine⟨_,heap_alloc_new w _,by rw [size_madeCells,bF];exact Ac _,fun j hj=> ?_⟩
  have im:zv.cells.size=size:=by simpa using aY
  have aD:j%size<zv.cells.size:=by rw [im];exact Nat.mod_lt _ bw
  refine⟨zv.cells[j%size],?_,?_⟩
  ·have jH:j%size<zv.cells.size:=aD
   simp only [madeCells,bF,im]
   simp [hj,jH,getElem!_pos]
  ·exact Fq zv.cells.toList (j%size) (by simpa using aD) _ _
 ·exact⟨c,rfl,jq,by unfold maxLen;omega,_,e,⟨_,heap_alloc_new w _⟩,by rw [size_madeCells,bF];simp⟩
def xZ (l:List Oper) (n d:Nat):Bool:=(l.take n).all fun o=> !(looks l o).contains d
theorem SH {n d:Nat} (hn:xZ l n d=true) (i:Nat) (o:Oper) (hi:i<n) (ho:l[i]?=some o):d∉looks l o:=fun hm=>by
 unfold xZ at hn
 rw [List.all_eq_true] at hn
 have:o∈l.take n:=List.mem_of_getElem? (i:=i) (by rw [List.getElem?_take,iP hi];exact ho)
 have:=hn o this
 simp [hm] at this
def nt (E:Vj) (h:Qa) (l:List Oper) (K:List It) (M i k:Nat) (rest:List Oper) (σ:Sl) (pre:List Al):Prop:=
 ∃ps σ' al,ps.map (·.1)=rest.take k∧kB E h l i ps σ σ' al∧(∀x∈al,xZ l M x.d=true)∧∀γ,aw E (.ops l (rest.drop k)::K) (Up (pre++al) (fun _=>true) γ σ') (cO (pre++al) (fun _=>true) γ++h)
theorem QtP {id:Nat} (n:Nat) (hm:E.P.follows .mixedOrders=true) (bo:(Jd l&&uz l n&&decide (n≤l.length))=true) (k:nt E h l K n 0 n l σ []):aw E (.code (.region id l.toArray true)::K) σ h:=fun a w s=>by
 obtain⟨ps,σ',al,mR,d,bZ,k⟩:=k
 simp only [Ba,Dq] at bo
 refine wp_region_any hm ?_
 have s':=s.later (Fr.drew (fun _=>False) w (w.drawn+1))
 have e0:∀j,(Array.replicate l.length false).getD j false=false:=fun j=>by
  rw [Array.getD_eq_getD_getElem?]
  simp only [Array.getElem?_replicate]
  split<;>rfl
 have mW:∀m,fx (fun j=>(Array.replicate l.length false).getD j false) m=m:=by
  intro m
  induction m with
  |zero=>rfl
  |succ m ih=>rw [fx,ih,e0];rfl
 have vc:∀(L:Nat→Bool) (al:List Al) (σ:Sl) (γ:Nat→Nat),(∀j,L j=false)→Up al L γ σ=σ∧cO al L γ=[]:=by
  intro L al σ γ hL
  induction al with
  |nil=>exact⟨rfl,rfl⟩
  |cons x al ih=>simp only [Up,cO,hL,Bool.false_eq_true,if_false];exact ih
 have vb:=fun(al:List Al) (σ:Sl) (γ:Nat→Nat)=>vc (fun j=>(Array.replicate l.length false).getD j false) al σ γ e0
 have:=Qmt (Q:=ep E K) bo.1.1 bo.1.2 bo.2 mR d (fun x hx i o hi ho=>SH (bZ x hx) i o hi ho) (fun γ a w st=>k γ a w st) n (Array.replicate l.length false) (fun _=>0) a {w with drawn:=w.drawn+1} (mW n) (by simp) (fun i o _ hl=>by rw [e0] at hl;cases hl) (fun j _ _=>e0 j) (by
  rw [(vb al _ _).1,(vb al σ _).2,Ln]
  refine s'.jQ (fun t=>.inr ?_) (Lr _)
  rw [Xv ps _ σ t (fun j p hp hb=> ?_)]
  exfalso
  have bp:j<ps.length:=(List.getElem?_eq_some_iff.1 hp).1
  have dJ:ps.length=n:=by have:=congrArg List.length mR;simp at this;omega
  rw [X3 om,e0] at hb
  cases hb)
 rw [show n+(l.length-n)=l.length from by omega] at this
 simpa using this
theorem Qrc {M i:Nat} {rest:List Oper} {pre:List Al} (k:∀γ,aw E (.ops l rest::K) (Up pre (fun _=>true) γ σ) (cO pre (fun _=>true) γ++h)):nt E h l K M i 0 rest σ pre:=
 ⟨[],σ,[],by simp,.nil,by simp,fun γ=>by simpa using k γ⟩
theorem wS {M i n:Nat} {rest:List Oper} {pre:List Al} {r:AV} (hc:Z4 E h l σ o r) (k:nt E h l K M (i+1) n rest (σ.az o.dst r) pre):nt E h l K M i (n+1) (o::rest) σ pre:=by
 obtain⟨ps,σ',al,h1,h2,h3,h4⟩:=k
 exact⟨(o,r)::ps,σ',al,by simp [h1],.calm hc h2,h3,by simpa using h4⟩
theorem Qrd {M i n d:Nat} {rest:List Oper} {pre:List Al} {rf:Nat→AV} {ob:XS} (hd:o.dst=some d) (hc:Wu E h l σ o rf ob) (hn:xZ l M d=true) (k:nt E h l K M (i+1) n rest (σ.set d (.c .any)) (pre++[⟨i,d,rf,ob⟩])):nt E h l K M i (n+1) (o::rest) σ pre:=by
 obtain⟨ps,σ',al,h1,h2,h3,h4⟩:=k
 refine⟨(o,.c .any)::ps,σ',⟨i,d,rf,ob⟩::al,by simp [h1],.new hd hc (by rw [hd];exact h2),fun x hx=> ?_,fun γ=> ?_⟩
 ·rcases Lb.1 hx with rfl|hx
  ·exact hn
  ·exact h3 x hx
 ·have:=h4 γ
  simpa using this
theorem Nd {M i n:Nat} {rest:List Oper} {pre:List Al} (nw:Bool) (hd:Qs E.N o.dst=true) (k:∀R:Option (Prop×Sl)→Prop,(∀q σ',q→nt E h l K M (i+1) n rest σ' pre→R (some (q,σ')))→R (Za E.P nw h l o σ)):nt E h l K M i (n+1) (o::rest) σ pre:=by
 have:=k (fun x=>x=Za E.P nw h l o σ→nt E h l K M i (n+1) (o::rest) σ pre) (fun q σ' hq ha e=>by
  unfold Za at e
  split at e
  ·rename_i hw
   split at e
   ·rename_i q1 r hp
    simp only [Aa,Ab] at e
    obtain⟨rfl,rfl⟩:=e
    exact wS (Z4.nj hw hp hq hd) ha
   ·cases e
  ·rename_i hw
   simp only [Aa,Ab] at e
   obtain⟨rfl,rfl⟩:=e
   exact wS (Z4.skip hw hd) ha
  ·cases e)
 exact this rfl
end
attribute [go_sem] Up cO
end
section
section
variable {E : Vj} {K : List It} {σ σ' : Sl} {h : Qa} {l : List Oper} {o : Oper}
theorem SI {P:Program} {o:Oper} {a:Act} {w:World} {K K':Act→World→Prop} {Q Q':Exit→Act→World→Prop} (h:∀a w,K a w→K' a w) (hq:∀e a w,e≠.normal→Q e a w→Q' e a w) (hh:o.wp P a w K Q):o.wp P a w K' Q':=by
 have hl:LetsOut Q→LetsOut Q':=fun⟨a,w,x⟩=>⟨a,w,hq _ _ _ (by simp) x⟩
 unfold Oper.wp at*
 generalize (execOp a.eval o).run P w=r at*
 cases r with
 |ok n w'=>
  cases n<;>simp only [Oper.upon] at hh⊢ <;>
   first
    |exact h _ _ hh
    |exact Calls.mono hh (fun e w'' he=>by cases e<;>first|exact h _ _ he|exact hl he|exact hq _ _ _ (by simp) he)
    |exact Rows.mono hh (fun _ _ he=>h _ _ he)
    |exact hh
 |halt x w'=>cases x<;>simp only [Oper.upon] at hh⊢ <;>first|exact hq _ _ _ (by simp) hh|exact hh|exact hl hh
end
end
section
section
variable {E : Vj} {K : List It} {σ σ' : Sl} {h : Qa} {l : List Oper} {o : Oper}
theorem Wu.alloc {t:TypeId} {z:List CV} (au:o.op=.alloc t) (hw:Qu l σ o=some true) (hd:Qs E.N o.dst=true) (hz:Qk E.P t=some z):Wu E h l σ o (fun g=>.c (.aj g 0)) (.cells t z.length (ao z)):=by
 refine Wu.ei hw hd fun σ' ext a w he s=> ?_
 obtain⟨i,v,hi,hv,rfl⟩:=Yt hz
 refine⟨.pointer (some ⟨w.heap.size,0,none⟩),w.alloc (.cells v.cells.toList.toArray t),?_,Fr.alloc _ _ _,by simp,Uh (WF _ _ _),rfl⟩
 simp only [execOp,au,Instr.alloc,zeroValue,typeInfo,newVar,newRow,Sem.run_bind]
 simp [hi,hv]
end
end
section
def Kq (FP h:Qa):Prop:=∀p∈FP,p∈h
structure JE (l:List Oper) (res:Nat→AV) (σ0:Sl) (seen:Nat→Prop) (σ:Sl):Prop where
 yes:∀j o d,seen j→l[j]?=some o→o.dst=some d→σ.get d=res j
 no:∀t,(∀j o,seen j→l[j]?=some o→o.dst≠some t)→σ.get t=σ0.get t
def CL (o:Oper) (seen:List Nat):Bool:=o.after.all fun e=> !Region.binds .any e||seen.contains e.on
theorem BK {o:Oper} {seen:List Nat} (h:CL o seen=true) {e:Edge} (he:e∈o.after) (hb:Region.binds .any e=true):e.on∈seen:=by
 unfold CL at h
 rw [Array.all_eq_true'] at h
 have:=h e he
 rw [hb] at this
 simpa using this
def OA (l:List Oper):List Nat→List Nat→List Nat→List (Nat×Nat)→Bool
 |_,_,_,[]=>true
 |seen,pn,fr,(i,b)::cs=>(match l[i]? with
  |none=>false
  |some o=> !(seen.contains i)&&CL o seen&&(pn.all fun p=>pa l 12 o p)&&(b !=2||seen.all fun p=>fr.contains p||pa l 12 o p))&&OA l (i::seen) (if b=0∨b=3 then pn else i::pn) (if b=3 then i::fr else fr) cs
section
variable {E : Vj} {K : List It} {l : List Oper} {FP : Qa} {σ σ' : Sl} {h : Qa} {o : Oper}
def iy (E:Vj) (FP:Qa) (l:List Oper) (σ:Sl) (o:Oper) (r:AV):Prop:=Qs E.N o.dst=true∧∀h,Kq FP h→VZ E h l σ o r
def R0 (E:Vj) (l:List Oper) (σ:Sl) (h:Qa) (o:Oper) (R:AV→Qa→Prop):Prop:=
 ∀(σ':Sl) (K:List It),(∀t∈looks l o,σ'.get t=σ.get t)→aw E (.ops l [o]::.stop (fun jR h2=>∃r,R r h2∧jR=σ'.az o.dst r)::K) σ' h
inductive CW (E:Vj) (l:List Oper) (K:List It):Qa→List (Nat×Nat)→Sl→Qa→Prop
 |nil {FP:Qa} {σ:Sl} {h:Qa}:aw E K σ h→CW E l K FP [] σ h
 |pF {FP:Qa} {i:Nat} {cs:List (Nat×Nat)} {o:Oper} {r:AV} {σ:Sl} {h:Qa}:l[i]?=some o→iy E FP l σ o r→CW E l K FP cs (σ.az o.dst r) h→CW E l K FP ((i,0)::cs) σ h
 |td {FP:Qa} {i:Nat} {cs:List (Nat×Nat)} {o:Oper} {r:AV} {σ:Sl} {h:Qa}:l[i]?=some o→iy E [] l σ o r→CW E l K FP cs (σ.az o.dst r) h→CW E l K FP ((i,3)::cs) σ h
 |k6 {FP FP':Qa} {i m:Nat} {cs:List (Nat×Nat)} {o:Oper} {R:AV→Qa→Prop} {σ:Sl} {h:Qa}:l[i]?=some o→(m=2∨m=1∧FP'=FP)→R0 E l σ h o R→(∀r h',R r h'→Kq FP' h')→(∀r h',R r h'→CW E l K FP' cs (σ.az o.dst r) h')→CW E l K FP ((i,m)::cs) σ h
theorem WO {cs:List (Nat×Nat)}:∀{seen pn fr:List Nat},OA l seen pn fr cs=true→∀i∈cs.map (·.1),i∉seen:=by
 induction cs with
 |nil=>intro seen pn fr _ i hi;cases hi
 |cons c cs ih=>
  intro seen pn fr hg i hi
  obtain⟨c,b⟩:=c
  simp only [OA,Ba] at hg
  obtain⟨h1,h2⟩:=hg
  simp only [Ld,Lb] at hi
  rcases hi with rfl|hi
  ·split at h1
   ·cases h1
   ·simp only [Ba,Bool.not_eq_true'] at h1
    have:=h1.1.1.1
    simpa using this
  ·have:=ih h2 i hi
   exact fun hm=>this (Lm _ hm)
theorem Qoq {p:Nat} {cs:List (Nat×Nat)}:∀{seen pn fr:List Nat},OA l seen pn fr cs=true→p∈pn→∀i∈cs.map (·.1),∃o,l[i]?=some o∧pa l 12 o p=true:=by
 induction cs with
 |nil=>intro seen pn fr _ _ i hi;cases hi
 |cons c cs ih=>
  intro seen pn fr hg hp i hi
  obtain⟨c,b⟩:=c
  simp only [OA,Ba] at hg
  obtain⟨h1,h2⟩:=hg
  simp only [Ld,Lb] at hi
  rcases hi with rfl|hi
  ·split at h1
   ·cases h1
   ·rename_i o ho
    simp only [Ba] at h1
    exact⟨o,ho,List.all_eq_true.1 h1.1.2 p hp⟩
  ·refine ih h2 ?_ i hi
   split
   ·exact hp
   ·exact Lm _ hp
structure du (E:Vj) (l:List Oper) (K:List It) (FP:Qa) (σ0:Sl) (listed:Array Bool) (iw:Sl) (h:Qa) (seen pn fr:List Nat) (cs:List (Nat×Nat)) (gO:Sl) (res:Nat→AV):Prop where
 size:listed.size=l.length
 bS:∀i o,l[i]?=some o→listed.getD i false=true→∀e∈o.after,Region.binds .any e=true→listed.getD e.on false=true
 go:OA l seen pn fr cs=true
 pG:∀i∈fr,i∈seen
 all:∀i,i<l.length→i∈seen∨i∈cs.map (·.1)
 cw:CW E l K FP cs gO h
 fp:Kq FP h
 closed:∀j∈seen,∀o,l[j]?=some o→∀e∈o.after,Region.binds .any e=true→e.on∈seen
 nI:JE l res σ0 (· ∈seen) gO
 je:∀i∈seen,listed.getD i false=false→∃(ct:List Nat) (lZ:Sl) (o:Oper),l[i]?=some o∧(∀j∈ct,j∈seen)∧i∉ct∧(∀j∈ct,∀o,l[j]?=some o→∀e∈o.after,Region.binds .any e=true→e.on∈ct)∧
  (∀e∈o.after,Region.binds .any e=true→e.on∈ct)∧JE l res σ0 (· ∈ct) lZ∧iy E FP l lZ o (res i)∧(i∈fr→iy E [] l lZ o (res i))
 pins:∀p∈pn,listed.getD p false=true
 act:JE l res σ0 (fun j=>listed.getD j false=true) iw
 sub:∀i,i<l.length→listed.getD i false=true→i∈seen
def od (l:List Oper):Bool:=l.zipIdx.all fun(o,i)=>l.zipIdx.all fun(p,j)=>match p.dst with
 |none=>true
 |some d=>(!(looks l o).contains d||(if j<i then kG o j else if i<j then kG p i else true))&&(j==i||o.dst !=some d)
theorem Qre (h:Jd l=true):od l=true:=by
 unfold Jd at h
 unfold od
 rw [List.all_eq_true] at h⊢
 intro x hx
 have:=h x hx
 obtain⟨o,i⟩:=x
 simp only [uv,Ba] at this
 exact this.2
theorem Bc (bo:od l=true) {i j d:Nat} {o p:Oper} (ho:l[i]?=some o) (hp:l[j]?=some p) (hd:p.dst=some d):
  (d∈looks l o→(j<i→kG o j=true)∧(i<j→kG p i=true))∧(j≠i→o.dst≠some d):=by
 unfold od at bo
 rw [List.all_eq_true] at bo
 have:=bo (o,i) (by rw [List.mem_zipIdx_iff_getElem?];exact ho)
 simp only [List.all_eq_true] at this
 have h2:=this (p,j) (by rw [List.mem_zipIdx_iff_getElem?];exact hp)
 simp only [hd,Ba,Bool.or_eq_true,Bool.not_eq_true',List.contains_eq_mem,decide_eq_false_iff_not,beq_iff_eq,bne_iff_ne] at h2
 refine⟨fun hm=> ?_,fun aK=>h2.2.resolve_left aK⟩
 have h3:=h2.1.resolve_left (fun hn=>hn hm)
 exact⟨fun aD=>by rw [iP aD] at h3;exact h3,fun aD=>by rw [iN om,iP aD] at h3;exact h3⟩
theorem Qrf {L:Nat→Bool} {ρ:Nat→Nat} {n:Nat}:∀(r j:Nat),ρ j=r→j<n→L j=false→∃j0,j0<n∧L j0=false∧∀q,q<n→ρ q<ρ j0→L q=true:=by
 intro r
 induction r using Nat.strongRecOn with
 |_ r ih=>
  intro j hr hj hL
  by_cases h:∃q,q<n∧ρ q<ρ j∧L q=false
  ·obtain⟨q,q1,q2,q3⟩:=h
   exact ih (ρ q) om q rfl q1 q3
  ·refine⟨j,hj,hL,fun q q1 q2=> ?_⟩
   cases hq:L q with
   |true=>rfl
   |false=>exact absurd ⟨q,q1,q2,hq⟩ h
def CM (l:List Oper):Prop:=∃ρ:Nat→Nat,∀i o,l[i]?=some o→∀e∈o.after,Region.binds .any e=true→e.on<l.length∧ρ e.on<ρ i
theorem Qmu (h:Jd l=true):CM l:=⟨id,fun i o ho e he hb=>by
 have h1:=Uj h ho he hb
 have h2:=(List.getElem?_eq_some_iff.1 ho).1
 exact⟨by omega,h1⟩⟩
theorem OY (bo:od l=true) {res:Nat→AV} {σ0 iw lZ:Sl} {listed:Array Bool} {seen:List Nat} {i:Nat} (ho:l[i]?=some o) (bS:∀i o,l[i]?=some o→listed.getD i false=true→∀e∈o.after,Region.binds .any e=true→listed.getD e.on false=true)
  (kN:i∉seen) (tr:listed.getD i false=false) (cn:∀j∈seen,∀o,l[j]?=some o→∀e∈o.after,Region.binds .any e=true→e.on∈seen) (mK:∀e∈o.after,Region.binds .any e=true→e.on∈seen)
  (mm:∀e∈o.after,Region.binds .any e=true→listed.getD e.on false=true) (a:JE l res σ0 (fun j=>listed.getD j false=true) iw) (b:JE l res σ0 (· ∈seen) lZ):∀t∈looks l o,iw.get t=lZ.get t:=by
 intro t ht
 by_cases hex:∃j p,j∈seen∧l[j]?=some p∧p.dst=some t
 ·obtain⟨j,p,hj,hp,hd⟩:=hex
  rw [b.yes j p t hj hp hd]
  have aK:j≠i:=fun e=>kN (e▸hj)
  obtain⟨e1,e2⟩:=(Bc bo ho hp hd).1 ht
  rcases Nat.lt_or_gt_of_ne aK with aD|fV
  ·obtain⟨e,he,gn,hb⟩:=Ze (e1 aD)
   exact a.yes j p t (by rw [←gn];exact mm e he hb) hp hd
  ·obtain⟨e,he,gn,hb⟩:=Ze (e2 fV)
   exact absurd (by rw [←gn];exact cn j hj p hp e he hb) kN
 ·rw [b.no t (fun j p hj hp hd=>hex ⟨j,p,hj,hp,hd⟩)]
  refine a.no t fun j p hj hp hd=> ?_
  have dO:listed.getD j false=true:=hj
  have aK:j≠i:=fun e=>by subst e;rw [tr] at dO;cases dO
  obtain⟨e1,e2⟩:=(Bc bo ho hp hd).1 ht
  rcases Nat.lt_or_gt_of_ne aK with aD|fV
  ·obtain⟨e,he,gn,hb⟩:=Ze (e1 aD)
   exact hex ⟨j,p,by rw [←gn];exact mK e he hb,hp,hd⟩
  ·obtain⟨e,he,gn,hb⟩:=Ze (e2 fV)
   have:=bS j p hp dO e he hb
   rw [gn,tr] at this
   cases this
theorem JE.set (bo:od l=true) {res:Nat→AV} {σ0:Sl} {seen:Nat→Prop} {i:Nat} {r:AV} (a:JE l res σ0 seen σ) (ho:l[i]?=some o) (hn:¬seen i) (hr:res i=r):JE l res σ0 (fun j=>j=i∨seen j) (σ.az o.dst r):=by
 refine⟨fun j p d hj hp hd=> ?_,fun t ht=> ?_⟩
 ·rw [YE]
  rcases hj with rfl|hj
  ·rw [ho] at hp
   injection hp with hp
   subst hp
   rw [iP hd,hr]
  ·have aK:j≠i:=fun e=>hn (e▸hj)
   rw [iN ((Bc bo ho hp hd).2 aK)]
   exact a.yes j p d hj hp hd
 ·rw [YE,iN (ht i o (.inl rfl) ho)]
  exact a.no t fun j p hj hp=>ht j p (.inr hj) hp
theorem JE.congr {res dX:Nat→AV} {σ0:Sl} {seen ct:Nat→Prop} (a:JE l res σ0 seen σ) (h1:∀j,j<l.length→(ct j↔seen j)) (h2:∀j,seen j→dX j=res j):JE l dX σ0 ct σ:=by
 have aD:∀{j:Nat} {o:Oper},l[j]?=some o→j<l.length:=fun h=>(List.getElem?_eq_some_iff.1 h).1
 refine⟨fun j p d hj hp hd=> ?_,fun t ht=>a.no t fun j p hj hp=>ht j p ((h1 j (aD hp)).2 hj) hp⟩
 have dO:=(h1 j (aD hp)).1 hj
 rw [h2 j dO]
 exact a.yes j p d dO hp hd
theorem iy.wide {r:AV} (hf:iy E [] l σ o r):iy E FP l σ o r:=⟨hf.1,fun h _=>hf.2 h (fun _ hm=>absurd hm Lj)⟩
theorem du.adv (bo:od l=true) {σ0 iw gO:Sl} {listed:Array Bool} {seen pn:List Nat} {i:Nat} {cs:List (Nat×Nat)} {res:Nat→AV} {fr:List Nat} {b:Nat} (hb:b=0∨b=3) (v:du E l K FP σ0 listed iw h seen pn fr ((i,b)::cs) gO res):
  ∃Pf wk dX,du E l K FP σ0 listed iw h (i::seen) pn Pf cs wk dX:=by
 obtain⟨size,bS,go,pG,all,cw,fp,closed,nI,je,pins,act,sub⟩:=v
 have kN:i∉seen:=WO go i (by simp)
 have bd:i∉fr:=fun hm=>kN (pG i hm)
 obtain⟨o,r,ho,hf,hf3,k⟩:∃o r,l[i]?=some o∧iy E FP l gO o r∧(b=3→iy E [] l gO o r)∧CW E l K FP cs (gO.az o.dst r) h:=by
  cases cw with
  |k6 _ hm=>exact absurd hm om
  |pF ho hf k=>exact⟨_,_,ho,hf,fun e=>by omega,k⟩
  |td ho hf k=>exact⟨_,_,ho,hf.wide,fun _=>hf,k⟩
 have aD:i<l.length:=(List.getElem?_eq_some_iff.1 ho).1
 have tr:listed.getD i false=false:=by
  cases hb:listed.getD i false with
  |false=>rfl
  |true=>exact absurd (sub i aD hb) kN
 simp only [OA,ho,Ba] at go
 obtain⟨⟨⟨⟨_,g2⟩,_⟩,_⟩,g4⟩:=go
 rw [iP hb] at g4
 let dX:Nat→AV:=fun j=>if j=i then r else res j
 have dK:∀j,j≠i→dX j=res j:=fun j hj=>iN hj
 have iJ:dX i=r:=iP rfl
 have jD:∀e∈o.after,Region.binds .any e=true→e.on∈seen:=fun e he hb=>BK g2 he hb
 have mJ:∀j∈i::seen,∀o,l[j]?=some o→∀e∈o.after,Region.binds .any e=true→e.on∈i::seen:=fun j hj p hp e he hb=>by
  rcases Lb.1 hj with rfl|hj
  ·rw [ho] at hp;injection hp with hp;subst hp
   exact Lm _ (jD e he hb)
  ·exact Lm _ (closed j hj p hp e he hb)
 have ov:JE l dX σ0 (· ∈seen) gO:=nI.congr (fun _ _=>Iff.rfl) fun j hj=>dK j fun e=>kN (e▸hj)
 have rA:∀j∈(if b=3 then i::fr else fr),(j=i∧b=3)∨j∈fr:=fun j hj=>by
  split at hj
  ·rename_i e
   rcases Lb.1 hj with h|h
   ·exact .inl ⟨h,e⟩
   ·exact .inr h
  ·exact .inr hj
 refine⟨if b=3 then i::fr else fr,gO.az o.dst r,dX,size,bS,g4,fun j hj=> ?_,fun j hj=> ?_,k,fp,mJ,?_,fun j hj hl=> ?_,pins,?_,fun j hj hl=>Lm _ (sub j hj hl)⟩
 ·rcases rA j hj with ⟨h,_⟩|h
  ·rw [h];exact Lf ..
  ·exact Lm _ (pG j h)
 ·rcases all j hj with hm|hm
  ·exact .inl (Lm _ hm)
  ·simp only [Ld,Lb] at hm
   rcases hm with rfl|hm
   ·exact .inl (Lf ..)
   ·exact .inr hm
 ·exact(ov.set bo ho kN iJ).congr (fun j _=>Lb) fun _ _=>rfl
 ·rcases Lb.1 hj with rfl|hj
  ·exact⟨seen,gO,o,ho,fun q hq=>Lm _ hq,kN,closed,jD,ov,by rw [iJ];exact hf,fun hm=>by
    rw [iJ]
    rcases rA _ hm with ⟨_,e⟩|e
    ·exact hf3 e
    ·exact absurd e bd⟩
  ·obtain⟨ct,lZ,p,hp,h1,h2,h3,h4,h5,h6,h7⟩:=je j hj hl
   exact⟨ct,lZ,p,hp,fun q hq=>Lm _ (h1 q hq),h2,h3,h4,h5.congr (fun _ _=>Iff.rfl) fun q hq=>dK q fun e=>kN (e▸h1 q hq),by rw [dK j fun e=>kN (e▸hj)];exact h6,fun hm=>by
    rw [dK j fun e=>kN (e▸hj)]
    rcases rA _ hm with ⟨e,_⟩|e
    ·exact absurd (e▸hj) kN
    ·exact h7 e⟩
 ·exact act.congr (fun _ _=>Iff.rfl) fun j hj=>dK j fun e=>by subst e;rw [tr] at hj;cases hj
theorem Bd {listed:Array Bool} {i:Nat} (hs:listed.size=l.length) (hi:i<l.length) {o:Oper} (ho:l[i]?=some o) (bS:∀i o,l[i]?=some o→listed.getD i false=true→∀e∈o.after,Region.binds .any e=true→listed.getD e.on false=true)
  (mm:∀e∈o.after,Region.binds .any e=true→listed.getD e.on false=true):∀j p,l[j]?=some p→(listed.setIfInBounds i true).getD j false=true→∀e∈p.after,Region.binds .any e=true→(listed.setIfInBounds i true).getD e.on false=true:=by
 intro j p hp hj e he hb
 rw [aA om] at hj⊢
 by_cases kK:e.on=i
 ·rw [iP kK]
 ·rw [iN kK]
  by_cases dw:j=i
  ·subst dw
   rw [ho] at hp;injection hp with hp;subst hp
   exact mm e he hb
  ·rw [iN dw] at hj
   exact bS j p hp hj e he hb
theorem I5 (bo:od l=true) (EF:CM l) {σ0:Sl}:∀(u:Nat) (FP:Qa) (listed:Array Bool) (iw:Sl) (h:Qa) (a:Act) (w:World),fx (fun j=>listed.getD j false) l.length=u→(∃seen pn fr cs gO res,du E l K FP σ0 listed iw h seen pn fr cs gO res)→St E.N E.C iw h a w→wpAny E.P .any l.toArray (ep E K) u listed a w:=by
 intro u
 induction u with
 |zero=>
  rintro FP listed iw h a w hu ⟨seen,pn,fr,cs,gO,res,v⟩ st
  have bQ:=wO l.length hu
  refine⟨?_,?_⟩
  ·rw [List.eq_nil_iff_forall_not_mem]
   intro j hj
   obtain⟨h1,h2,_⟩:=(Yo v.size).1 hj
   rw [bQ j h1] at h2
   cases h2
  ·obtain⟨size,bS,go,pG,all,cw,fp,closed,nI,je,pins,act,sub⟩:=v
   have cn:cs=[]:=by
    cases cs with
    |nil=>rfl
    |cons c cs=>
     have kN:=WO go c.1 (by simp)
     have:c.1<l.length:=by
      obtain⟨c,b⟩:=c
      simp only [OA,Ba] at go
      have g1:=go.1
      split at g1
      ·cases g1
      ·rename_i o ho
       exact(List.getElem?_eq_some_iff.1 ho).1
     exact absurd (sub _ this (bQ _ this)) kN
   subst cn
   cases cw with
   |nil k=>
   refine k a w (st.jQ (fun t=>.inr ?_) (Lr _))
   by_cases hex:∃j p,j<l.length∧l[j]?=some p∧p.dst=some t
   ·obtain⟨j,p,hj,hp,hd⟩:=hex
    rw [nI.yes j p t (sub j hj (bQ j hj)) hp hd,act.yes j p t (bQ j hj) hp hd]
   ·have fX:∀j (p:Oper),l[j]?=some p→p.dst≠some t:=fun j p hp hd=>hex ⟨j,p,(List.getElem?_eq_some_iff.1 hp).1,hp,hd⟩
    rw [nI.no t fun j p _ hp=>fX j p hp,act.no t fun j p _ hp=>fX j p hp]
 |succ u ih=>
  rintro FP listed iw h a w hu ⟨seen,pn,fr,cs,gO,res,v⟩ st
  obtain⟨ρ,Ru⟩:=EF
  obtain⟨j1,fG,oF,_⟩:=wT (L:=fun j=>listed.getD j false) l.length om
  obtain⟨j0,kL,pR,nK⟩:=Qrf (L:=fun j=>listed.getD j false) (ρ:=ρ) _ j1 rfl fG oF
  have bM:j0∈Region.ready .any l.toArray listed:=(Yo v.size).2 ⟨kL,pR,fun o ho e he hb=>nK _ (Ru _ o ho e he hb).1 (Ru _ o ho e he hb).2⟩
  refine⟨fun e=>by rw [e] at bM;simp at bM,fun i hi=> ?_⟩
  obtain⟨h1,h2,h3⟩:=(Yo v.size).1 hi
  have ho:l[i]?=some l[i]:=Li h1
  have mm:=h3 _ ho
  have mW:fx (fun j=>(listed.setIfInBounds i true).getD j false) l.length=u:=by
   have rB:(fun j=>(listed.setIfInBounds i true).getD j false)=fun j=>if j=i then true else listed.getD j false:=funext fun j=>aA (by rw [v.size];exact h1)
   rw [rB]
   have:=wU (L:=fun j=>listed.getD j false) l.length h1 h2
   omega
  clear bM kL pR nK j0
  have key:∀(n:Nat) (seen pn fr:List Nat) (cs:List (Nat×Nat)) (gO:Sl) (res:Nat→AV),cs.length=n→du E l K FP σ0 listed iw h seen pn fr cs gO res→wpOp E.P l.toArray (ep E K) i (wpAny E.P .any l.toArray (ep E K) u (listed.setIfInBounds i true)) a w:=by
   intro n
   induction n with
   |zero=>
    intro seen pn fr cs gO res hn v
    have cn:cs=[]:=List.eq_nil_of_length_eq_zero hn
    subst cn
    have iH:i∈seen:=(v.all i h1).resolve_right (by simp)
    obtain⟨ct,lZ,o,fi,q1,q2,q3,q4,q5,q6,_⟩:=v.je i iH h2
    rw [ho] at fi
    injection fi with fi
    subst fi
    have bW:=OY bo ho v.bS q2 h2 q3 q4 mm v.act q5
    have hc:=(q6.2 h v.fp).2 iw a w (ep E K) bW st
    have cK:∀a' w',St E.N E.C (iw.az l[i].dst (res i)) h a' w'→wpAny E.P .any l.toArray (ep E K) u (listed.setIfInBounds i true) a' w':=fun a' w' iR=>by
     refine ih FP _ _ h a' w' mW ⟨seen,pn,fr,[],gO,res,by simpa using v.size,Bd v.size h1 ho v.bS mm,v.go,v.pG,v.all,v.cw,v.fp,v.closed,v.nI,fun j hj hl=> ?_,fun p hp=> ?_,?_,fun j hj hl=> ?_⟩ iR
     ·rw [aA (by have:=v.size;omega)] at hl
      split at hl
      ·cases hl
      ·exact v.je j hj hl
     ·rw [aA (by have:=v.size;omega)]
      split
      ·rfl
      ·exact v.pins p hp
     ·refine(v.act.set bo ho (by rw [h2];simp) rfl).congr (fun j _=> ?_) fun _ _=>rfl
      rw [aA (by have:=v.size;omega)]
      by_cases dw:j=i<;>simp [dw]
     ·rw [aA (by have:=v.size;omega)] at hl
      split at hl
      ·rename_i e;rw [e];exact iH
      ·exact v.sub j hj hl
    unfold wpOp
    rw [show l.toArray[i]?=some l[i] from by simp [h1]]
    simp only
    split
    ·rename_i hw
     rw [iP hw] at hc
     exact .inl (Oper.wp_mono cK hc)
    ·rename_i hw
     rw [iN hw] at hc
     have st2:=st.put q6.1 (r:=.aF []) (v:=undef) ⟨[],rfl,trivial⟩
     rw [←hc] at st2
     exact cK _ _ st2
   |succ n ihn=>
    intro seen pn fr cs gO res hn v
    by_cases iH:i∈seen
    ·obtain⟨ct,lZ,o,fi,q1,q2,q3,q4,q5,q6,_⟩:=v.je i iH h2
     rw [ho] at fi
     injection fi with fi
     subst fi
     have bW:=OY bo ho v.bS q2 h2 q3 q4 mm v.act q5
     have hc:=(q6.2 h v.fp).2 iw a w (ep E K) bW st
     have cK:∀a' w',St E.N E.C (iw.az l[i].dst (res i)) h a' w'→wpAny E.P .any l.toArray (ep E K) u (listed.setIfInBounds i true) a' w':=fun a' w' iR=>by
      refine ih FP _ _ h a' w' mW ⟨seen,pn,fr,cs,gO,res,by simpa using v.size,Bd v.size h1 ho v.bS mm,v.go,v.pG,v.all,v.cw,v.fp,v.closed,v.nI,fun j hj hl=> ?_,fun p hp=> ?_,?_,fun j hj hl=> ?_⟩ iR
      ·rw [aA (by have:=v.size;omega)] at hl
       split at hl
       ·cases hl
       ·exact v.je j hj hl
      ·rw [aA (by have:=v.size;omega)]
       split
       ·rfl
       ·exact v.pins p hp
      ·refine(v.act.set bo ho (by rw [h2];simp) rfl).congr (fun j _=> ?_) fun _ _=>rfl
       rw [aA (by have:=v.size;omega)]
       by_cases dw:j=i<;>simp [dw]
      ·rw [aA (by have:=v.size;omega)] at hl
       split at hl
       ·rename_i e;rw [e];exact iH
       ·exact v.sub j hj hl
     unfold wpOp
     rw [show l.toArray[i]?=some l[i] from by simp [h1]]
     simp only
     split
     ·rename_i hw
      rw [iP hw] at hc
      exact .inl (Oper.wp_mono cK hc)
     ·rename_i hw
      rw [iN hw] at hc
      have st2:=st.put q6.1 (r:=.aF []) (v:=undef) ⟨[],rfl,trivial⟩
      rw [←hc] at st2
      exact cK _ _ st2
    ·match cs,hn,v with
     |(c,b)::cs,hn,v=>
      by_cases hb:b=0∨b=3
      ·obtain⟨Pf,wk,dX,v'⟩:=v.adv bo hb
       exact ihn _ _ _ cs _ _ (by simpa using hn) v'
      obtain⟨size,bS,go,pG,all,cw,fp,closed,nI,je,pins,act,sub⟩:=v
      cases cw with
      |pF=>exact absurd (.inl rfl) hb
      |td=>exact absurd (.inr rfl) hb
      | @k6 _ FP' _ _ _ o R _ _ tA jI EA kf k=>
      have D2:c<l.length:=(List.getElem?_eq_some_iff.1 tA).1
      have nJ:c∉seen:=WO go c (by simp)
      have oH:listed.getD c false=false:=by
       cases hb:listed.getD c false with
       |false=>rfl
       |true=>exact absurd (sub c D2 hb) nJ
      simp only [OA,tA,Ba] at go
      obtain⟨⟨⟨⟨_,g2⟩,_⟩,g3⟩,g4⟩:=go
      rw [iN hb,iN (fun e=>hb (.inr e))] at g4
      have Pj:OA l (c::seen) (c::pn) fr cs=true:=g4
      have tq:i=c:=by
       rcases all i h1 with hm|hm
       ·exact absurd hm iH
       ·simp only [Ld,Lb] at hm
        rcases hm with hm|hm
        ·exact hm
        ·obtain⟨o',fi,he⟩:=Qoq Pj (Lf ..) i hm
         rw [ho] at fi
         injection fi with fi
         subst fi
         have:=VM (L:=fun j=>listed.getD j false) (fun i o hi=>bS i o hi) 12 l[i] c mm he
         rw [oH] at this
         cases this
      subst tq
      rw [ho] at tA
      injection tA with tA
      subst tA
      have jD:∀e∈l[i].after,Region.binds .any e=true→e.on∈seen:=fun e he hb=>BK g2 he hb
      have bW:=OY bo ho bS nJ h2 closed jD mm act nI
      have kk:=EA iw K bW a w st
      have bQ:b=2→∀j∈seen,j∈fr∨listed.getD j false=true:=fun hm j hj=>by
       subst hm
       simp only [bne_self_eq_false,Bool.false_or] at g3
       have:=List.all_eq_true.1 g3 j hj
       rw [Bool.or_eq_true] at this
       rcases this with h|h
       ·exact .inl (by simpa using h)
       ·exact .inr (VM (L:=fun j=>listed.getD j false) (fun i o hi=>bS i o hi) 12 l[i] j mm h)
      have cK:∀a' w',ep E (.stop (fun jR h2=>∃r,R r h2∧jR=iw.az l[i].dst r)::K) .normal a' w'→wpAny E.P .any l.toArray (ep E K) u (listed.setIfInBounds i true) a' w':=by
       rintro a' w' ⟨jR,h',⟨r,hR,rfl⟩,iR⟩
       have fp':=kf r h' hR
       have cw':=k r h' hR
       let dX:Nat→AV:=fun j=>if j=i then r else res j
       have dK:∀j,j≠i→dX j=res j:=fun j hj=>iN hj
       have iJ:dX i=r:=iP rfl
       have ov:JE l dX σ0 (· ∈seen) gO:=nI.congr (fun _ _=>Iff.rfl) fun j hj=>dK j fun e=>nJ (e▸hj)
       have Dh:JE l dX σ0 (fun j=>listed.getD j false=true) iw:=act.congr (fun _ _=>Iff.rfl) fun j hj=>dK j fun e=>by subst e;rw [h2] at hj;cases hj
       refine ih FP' _ _ h' a' w' mW ⟨i::seen,i::pn,fr,cs,gO.az l[i].dst r,dX,by simpa using size,Bd size h1 ho bS mm,Pj,fun j hj=>Lm _ (pG j hj),fun j hj=> ?_,cw',fp',fun j hj p hp e he hb=> ?_,(ov.set bo ho nJ iJ).congr (fun j _=>Lb) fun _ _=>rfl,fun j hj hl=> ?_,fun p hp=> ?_,?_,fun j hj hl=> ?_⟩ iR
       ·rcases all j hj with hm|hm
        ·exact .inl (Lm _ hm)
        ·simp only [Ld,Lb] at hm
         rcases hm with rfl|hm
         ·exact .inl (Lf ..)
         ·exact .inr hm
       ·rcases Lb.1 hj with rfl|hj
        ·rw [ho] at hp;injection hp with hp;subst hp
         exact Lm _ (jD e he hb)
        ·exact Lm _ (closed j hj p hp e he hb)
       ·rw [aA om] at hl
        split at hl
        ·cases hl
        ·rename_i dw
         have dO:j∈seen:=(Lb.1 hj).resolve_left dw
         obtain⟨ct,lZ,p,hp,q1,q2,q3,q4,q5,q6,q7⟩:=je j dO hl
         rcases jI with vA|⟨_,rfl⟩
         ·rcases bQ vA j dO with bd|gV
          ·exact⟨ct,lZ,p,hp,fun q hq=>Lm _ (q1 q hq),q2,q3,q4,q5.congr (fun _ _=>Iff.rfl) fun q hq=>dK q fun e=>nJ (e▸q1 q hq),by rw [dK j dw];exact(q7 bd).wide,fun hm=>by rw [dK j dw];exact q7 hm⟩
          ·rw [gV] at hl;cases hl
         ·exact⟨ct,lZ,p,hp,fun q hq=>Lm _ (q1 q hq),q2,q3,q4,q5.congr (fun _ _=>Iff.rfl) fun q hq=>dK q fun e=>nJ (e▸q1 q hq),by rw [dK j dw];exact q6,fun hm=>by rw [dK j dw];exact q7 hm⟩
       ·rw [aA om]
        split
        ·rfl
        ·rename_i fM
         exact pins p ((Lb.1 hp).resolve_left fM)
       ·refine(Dh.set bo ho (by rw [h2];simp) iJ).congr (fun j _=> ?_) fun _ _=>rfl
        rw [aA om]
        by_cases dw:j=i<;>simp [dw]
       ·rw [aA om] at hl
        split at hl
        ·rename_i e;rw [e];exact Lf ..
        ·exact Lm _ (sub j hj hl)
      have hq:∀e a w,e≠.normal→ep E (.stop (fun jR h2=>∃r,R r h2∧jR=iw.az l[i].dst r)::K) e a w→ep E K e a w:=fun e a w aK hq=>by
       cases e with
       |normal=>exact absurd rfl aK
       |exit id=>exact hq
       |goto l=>exact hq
       |ret=>exact hq
       |panic c=>exact hq
       |outgrown=>exact hq
      unfold wpOp
      rw [show l.toArray[i]?=some l[i] from by simp [h1]]
      change wpList E.P l.toArray _ [l[i]] a w at kk
      simp only [wpList] at kk
      simp only
      split
      ·rename_i hw
       rw [iP hw] at kk
       exact kk.imp (SI cK hq) (fun x=>⟨x.1,x.2.elim fun a h=>h.elim fun w h=>⟨a,w,hq _ _ _ (by simp) h⟩⟩)
      ·rename_i hw
       rw [iN hw] at kk
       exact cK _ _ kk
  exact key cs.length seen pn fr cs gO res rfl v
theorem Yl {id:Nat} (FP:Qa) (cs:List (Nat×Nat)) (hm:E.P.follows .mixedOrders=true) (bo:(Jd l&&OA l [] [] [] cs&&((List.range l.length).all fun i=>(cs.map (·.1)).contains i))=true) (fK:Kq FP h) (k:CW E l K FP cs σ h):
  aw E (.code (.region id l.toArray true)::K) σ h:=fun a w s=>by
 simp only [Ba] at bo
 obtain⟨⟨dp,cC⟩,bQ⟩:=bo
 refine wp_region_any hm ?_
 have s':=s.later (Fr.drew (fun _=>False) w (w.drawn+1))
 have e0:∀j,(Array.replicate l.length false).getD j false=false:=fun j=>by
  rw [Array.getD_eq_getD_getElem?]
  simp only [Array.getElem?_replicate]
  split<;>rfl
 have mW:∀m,fx (fun j=>(Array.replicate l.length false).getD j false) m=m:=by
  intro m
  induction m with
  |zero=>rfl
  |succ m ih=>rw [fx,ih,e0];rfl
 have:=I5 (E:=E) (K:=K) (σ0:=σ) (Qre dp) (Qmu dp) l.length FP (Array.replicate l.length false) σ h a {w with drawn:=w.drawn+1} (mW _) ⟨[],[],[],cs,σ,fun _=>.c .any,by simp,fun i o _ hl=>(by rw [e0] at hl;cases hl),cC,fun i hi=>absurd hi Lj,fun i hi=>.inr ?_,k,fK,fun j hj=>absurd hj Lj,⟨fun j _ _ hj=>absurd hj Lj,fun _ _=>rfl⟩,fun i hi=>absurd hi Lj,fun p hp=>absurd hp Lj,⟨fun j _ _ hj=>(by rw [e0] at hj;cases hj),fun _ _=>rfl⟩,fun i _ hl=>(by rw [e0] at hl;cases hl)⟩ s'
 ·simpa using this
 ·have:=List.all_eq_true.1 bQ i (List.mem_range.2 hi)
  simpa using this
theorem iy.pure {nw:Bool} {q:Prop} {r:AV} (hw:Qu l σ o=some true) (hb:UY E.P nw FP (ev σ) o.op=some (q,r)) (hq:q) (hd:Qs E.N o.dst=true):iy E FP l σ o r:=by
 refine⟨hd,fun h rz=>⟨hd,fun σ' a w Q hs s=> ?_⟩⟩
 rw [iP (s.wanted ((Xg hs).trans hw))]
 obtain⟨v,aR,hr⟩:=UZ (fun _=>rfl) hb hq (QH E.C h w) w a.eval QH.dM (fun x hx=>by rw [←XD hx hs];exact QN s x) (fun g o hm=>s.heap g o (rz _ hm))
 unfold Oper.wp
 rw [aR o rfl]
 exact s.put hd hr
theorem iy.skip (hw:Qu l σ o=some false) (hd:Qs E.N o.dst=true):iy E FP l σ o (.aF []):=⟨hd,fun _ _=>VZ.skip hw hd⟩
theorem Qvh {i:Nat} {cs:List (Nat×Nat)} (ho:l[i]?=some o) (hd:Qs E.N o.dst=true) (k:∀R:Option (Prop×Sl)→Prop,(∀q σ',CW E l K FP cs σ' h→(hq:q:=by(try simp only [XM])<;>and_intros<;>first|exact True.intro|omega|trivial)→R (some (q,σ')))→R (Za E.P true FP l o σ)):CW E l K FP ((i,0)::cs) σ h:=by
 have:=k (fun x=>x=Za E.P true FP l o σ→CW E l K FP ((i,0)::cs) σ h) (fun q σ' ha hq e=>by
  unfold Za at e
  split at e
  ·rename_i hw
   split at e
   ·rename_i q1 r hp
    injection e with e
    injection e with e1 e2
    subst e1 e2
    exact .pF ho (iy.pure hw hp hq hd) ha
   ·cases e
  ·rename_i hw
   injection e with e
   injection e with e1 e2
   subst e1 e2
   exact .pF ho (iy.skip hw hd) ha
  ·cases e)
 exact this rfl
end
end
section
section
variable {E : Vj} {K : List It} {l : List Oper} {FP : Qa} {σ σ' : Sl} {h : Qa} {o : Oper} {i : Nat} {cs : List (Nat × Nat)}
theorem qn (ho:l[i]?=some o) (hd:Qs E.N o.dst=true) (k:∀R:Option (Prop×Sl)→Prop,(∀q σ',CW E l K FP cs σ' h→(hq:q:=by(try simp only [XM])<;>and_intros<;>first|exact True.intro|omega|trivial)→R (some (q,σ')))→R (Za E.P true FP l o σ)):CW E l K FP ((i,0)::cs) σ h:=Qvh ho hd k
theorem oZ (k:aw E K σ h):CW E l K FP [] σ h:=.nil k
theorem Qor {σ':Sl} {xs:List Operand} (hx:∀x∈xs,x∈o.op.operands) (hs:∀t∈looks l o,σ'.get t=σ.get t):xs.map (ev σ')=xs.map (ev σ):=List.map_congr_left fun x h=>XD (hx x h) hs
theorem Ur {FP':Qa} {m:Nat} {f:FuncId} {xs:List Operand} {ts:Array TypeId} {hc hr:Qa} {args:List AV} {Q:AV→Qa→Prop} (ho:l[i]?=some o) (hf:Fh E.P f hc args Q) (au:o.op=.call {callee:=.value (.func f),args:=xs.toArray,argTypes:=ts}) (hw:Qu l σ o=some true) (hd:Qs E.N o.dst=true)
  (hp:h.Perm (hc++hr)) (le:JT [] (xs.map (ev σ)) args) (fK:∀r h',Q r h'→Kq FP' (h'++hr)) (k:∀r h',Q r h'→(∀g∈h'.keys,g∉hr.keys)→CW E l K FP' cs (σ.az o.dst r) (h'++hr)) (hm:m=2∨m=1∧FP'=FP:=by first|exact .inl rfl|exact .inr ⟨rfl,rfl⟩):CW E l K FP ((i,m)::cs) σ h:=by
 refine .k6 ho hm (R:=fun r h2=>∃h',Q r h'∧(∀g∈h'.keys,g∉hr.keys)∧h2=h'++hr) (fun σ' K hs=> ?_) ?_ ?_
 ·have he:xs.map (ev σ')=xs.map (ev σ):=Qor (fun x hx=>by rw [au];simp [Op.operands,Call.operands,hx]) hs
  exact Qq hf au ((Xg hs).trans hw) hd hp (by rw [he];exact le) fun r h' hq bd=>XP (Qb ⟨r,⟨h',hq,bd,rfl⟩,rfl⟩)
 ·rintro r h2 ⟨h',hq,_,rfl⟩;exact fK r h' hq
 ·rintro r h2 ⟨h',hq,bd,rfl⟩;exact k r h' hq bd
theorem Xc {FP':Qa} {mk t g off m n:Nat} {ty:TypeId} {ag:Bool} {f:Nat→CV} {a x:Operand} {v:AV} {h':Qa} (ho:l[i]?=some o) (au:o.op=.store t a x) (hw:Qu l σ o=some true) (hd:Qs E.N o.dst=true) (hY:o.dst=none) (ha:ev σ a=.c (.aj g off)) (hx:ev σ x=v)
  (hg:h.get g=some (.cells ty m f)) (ht:XC E.P t=some (ag,n)) (gj:∀xs,v≠.aF xs) (hs:v.cells.all CV.aX=true) (hlen:v.cells.length=n) (hle:off+n≤m)
  (hh:h.set g (.cells ty m (Vl f off v.cells))=h') (fK:Kq FP' h') (k:CW E l K FP' cs σ h') (hm:mk=2∨mk=1∧FP'=FP:=by first|exact .inl rfl|exact .inr ⟨rfl,rfl⟩):CW E l K FP ((i,mk)::cs) σ h:=by
 refine .k6 ho hm (R:=fun _ h2=>h2=h') (fun σ' K gw=> ?_) ?_ ?_
 ·exact Kn au ((Xg gw).trans hw) hd hY ((XD (by rw [au];simp [Op.operands]) gw).trans ha) ((XD (by rw [au];simp [Op.operands]) gw).trans hx) hg ht gj hs hlen hle hh (XP (Qb ⟨.c .any,rfl,by rw [hY];rfl⟩))
 ·rintro _ _ rfl;exact fK
 ·rintro _ _ rfl;rw [hY];exact k
theorem WP {FP':Qa} {m:Nat} {t:TypeId} {z:List CV} (ho:l[i]?=some o) (au:o.op=.alloc t) (hw:Qu l σ o=some true) (hd:Qs E.N o.dst=true) (hz:Qk E.P t=some z) (fK:Kq FP' h)
  (k:∀g,g∉h.keys→CW E l K FP' cs (σ.az o.dst (.c (.aj g 0))) ((g,.cells t z.length (ao z))::h)) (hm:m=2∨m=1∧FP'=FP:=by first|exact .inl rfl|exact .inr ⟨rfl,rfl⟩):CW E l K FP ((i,m)::cs) σ h:=by
 refine .k6 ho hm (R:=fun r h2=>∃g,g∉h.keys∧r=.c (.aj g 0)∧h2=(g,.cells t z.length (ao z))::h) (fun σ' K hs=> ?_) ?_ ?_
 ·exact Bm au ((Xg hs).trans hw) hd hz fun g hg=>XP (Qb ⟨_,⟨g,hg,rfl,rfl⟩,rfl⟩)
 ·rintro r h2 ⟨g,_,_,rfl⟩;exact fun p hp=>Lm _ (fK p hp)
 ·rintro r h2 ⟨g,hg,rfl,rfl⟩;exact k g hg
theorem iy.call {f:FuncId} {xs:List Operand} {ts:Array TypeId} {args:List AV} {r:AV} (hf:Fa E.P f args r) (au:o.op=.call {callee:=.value (.func f),args:=xs.toArray,argTypes:=ts}) (hw:Qu l σ o=some true) (hd:Qs E.N o.dst=true)
 (le:∀h,Kq FP h→JT h (xs.map (ev σ)) args):iy E FP l σ o r:=⟨hd,fun h rz=>VZ.call hf au hw hd (le h rz)⟩
theorem X9 {f:FuncId} {xs:List Operand} {ts:Array TypeId} {args:List AV} {r:AV} (ho:l[i]?=some o) (hf:Fa E.P f args r) (au:o.op=.call {callee:=.value (.func f),args:=xs.toArray,argTypes:=ts}) (hw:Qu l σ o=some true) (hd:Qs E.N o.dst=true)
 (le:∀h,Kq FP h→JT h (xs.map (ev σ)) args) (k:CW E l K FP cs (σ.az o.dst r) h):CW E l K FP ((i,0)::cs) σ h:=.pF ho (iy.call hf au hw hd le) k
theorem Qf {h:Qa}:Kq [] h:=fun p hp=>absurd hp Lj
theorem Qm {p:Nat×XS} {FP h:Qa} (h1:p∈h) (h2:Kq FP h):Kq (p::FP) h:=fun q hq=>by
 rcases Lb.1 hq with rfl|hq
 ·exact h1
 ·exact h2 q hq
theorem XR {p:Nat×XS} {FP h:Qa} (h1:Kq FP h):Kq FP (p::h):=fun q hq=>Lm _ (h1 q hq)
end
end
theorem qa {a : Nat × XS} {h : Qa} (h1 : a ∈ h := by simp) : Kq [a] h := Qm h1 Qf
theorem qb {α : Type} {a b : α} (h : a = b := by first|rfl|simp only [Ad,Ln,Lq]<;>rfl) : a = b := h
theorem qc {p : Prop} (h : p := by unfold maxLen;omega) : p := h
theorem qd {t : Nat} {P : Operand → Prop} (h : P (.tmp t) := by exact ⟨rfl,rfl,rfl⟩) : ∀ x ∈ [Operand.tmp t], P x := by intro x hx;simp only [Lv] at hx;subst hx;exact h
section
structure X6 (X:Prop):Prop where
 out:X
theorem o0:True:=True.intro
theorem oj {a b:Prop} (x:a) (y:b):a∧b:=⟨x,y⟩
theorem yG {F X G:Prop} (f:F) (x:X) (k:F→X6 X→G:=by intro f x;(repeat first|apply fy|apply nr|apply sw|apply sz|apply tM rfl|apply jP|apply ql|(refine nQ rfl fun R r=>?_;simp only[go_sem,f];with_reducible show R (some _);with_reducible refine r _ _ ?_;clear r R)|apply qm|(refine nT rfl fun R r=>?_;simp only[go_sem,f];with_reducible show R (some _);with_reducible refine r _ _ ?_;clear r R)|apply oZ|(refine qn rfl rfl fun R r=>?_;simp only[go_sem,f];with_reducible show R (some _);with_reducible refine r _ _ ?_;clear r R));exact x.out):G:=k f ⟨x⟩
theorem xG {X G:Prop} (x:X) (k:X6 X→G:=by intro x;(repeat first|apply fy|apply nr|apply sw|apply sz|apply tM rfl|apply jP|apply ql|(refine nQ rfl fun R r=>?_;simp only[go_sem];with_reducible show R (some _);with_reducible refine r _ _ ?_;clear r R)|apply qm|(refine nT rfl fun R r=>?_;simp only[go_sem];with_reducible show R (some _);with_reducible refine r _ _ ?_;clear r R)|apply oZ|(refine qn rfl rfl fun R r=>?_;simp only[go_sem];with_reducible show R (some _);with_reducible refine r _ _ ?_;clear r R));exact x.out):G:=k ⟨x⟩
theorem yH {F X G:Prop} (f:F) (x:X) (k:F→X6 X→G:=by intro f x;(repeat first|apply ql|(refine nQ rfl fun R r=>?_;simp only[go_sem,f];with_reducible show R (some _);with_reducible refine r _ _ ?_;clear r R)|apply qm|(refine nT rfl fun R r=>?_;simp only[go_sem,f];with_reducible show R (some _);with_reducible refine r _ _ ?_;clear r R)|apply oZ|(refine qn rfl rfl fun R r=>?_;simp only[go_sem,f];with_reducible show R (some _);with_reducible refine r _ _ ?_;clear r R));exact x.out):G:=k f ⟨x⟩
theorem xH {X G:Prop} (x:X) (k:X6 X→G:=by intro x;(repeat first|apply ql|(refine nQ rfl fun R r=>?_;simp only[go_sem];with_reducible show R (some _);with_reducible refine r _ _ ?_;clear r R)|apply qm|(refine nT rfl fun R r=>?_;simp only[go_sem];with_reducible show R (some _);with_reducible refine r _ _ ?_;clear r R)|apply oZ|(refine qn rfl rfl fun R r=>?_;simp only[go_sem];with_reducible show R (some _);with_reducible refine r _ _ ?_;clear r R));exact x.out):G:=k ⟨x⟩
theorem yI {F X G:Prop} (f:F) (x:X) (k:F→X6 X→G:=by intro f x;(repeat first|apply fy|apply sw|apply sz|apply tM rfl|apply jP|apply ql|(refine nQ rfl fun R r=>?_;simp only[go_sem,f];with_reducible show R (some _);with_reducible refine r _ _ ?_;clear r R)|apply qm|(refine nT rfl fun R r=>?_;simp only[go_sem,f];with_reducible show R (some _);with_reducible refine r _ _ ?_;clear r R)|apply oZ|(refine qn rfl rfl fun R r=>?_;simp only[go_sem,f];with_reducible show R (some _);with_reducible refine r _ _ ?_;clear r R));exact x.out):G:=k f ⟨x⟩
theorem xI {X G:Prop} (x:X) (k:X6 X→G:=by intro x;(repeat first|apply fy|apply sw|apply sz|apply tM rfl|apply jP|apply ql|(refine nQ rfl fun R r=>?_;simp only[go_sem];with_reducible show R (some _);with_reducible refine r _ _ ?_;clear r R)|apply qm|(refine nT rfl fun R r=>?_;simp only[go_sem];with_reducible show R (some _);with_reducible refine r _ _ ?_;clear r R)|apply oZ|(refine qn rfl rfl fun R r=>?_;simp only[go_sem];with_reducible show R (some _);with_reducible refine r _ _ ?_;clear r R));exact x.out):G:=k ⟨x⟩
theorem yO {F X G:Prop} (f:F) (x:X) (k:F→X6 X→G:=by intro f x;(first|(refine nQ rfl fun R r=>?_;simp only[go_sem,f];with_reducible show R (some _);with_reducible refine r _ _ ?_;clear r R)|(refine nT rfl fun R r=>?_;simp only[go_sem,f];with_reducible show R (some _);with_reducible refine r _ _ ?_;clear r R)|apply oZ|(refine qn rfl rfl fun R r=>?_;simp only[go_sem,f];with_reducible show R (some _);with_reducible refine r _ _ ?_;clear r R));exact x.out):G:=k f ⟨x⟩
theorem xO {X G:Prop} (x:X) (k:X6 X→G:=by intro x;(first|(refine nQ rfl fun R r=>?_;simp only[go_sem];with_reducible show R (some _);with_reducible refine r _ _ ?_;clear r R)|(refine nT rfl fun R r=>?_;simp only[go_sem];with_reducible show R (some _);with_reducible refine r _ _ ?_;clear r R)|apply oZ|(refine qn rfl rfl fun R r=>?_;simp only[go_sem];with_reducible show R (some _);with_reducible refine r _ _ ?_;clear r R));exact x.out):G:=k ⟨x⟩
theorem yS {F X G:Prop} (f:F) (x:X) (k:F→X6 X→G:=by intro f x;(try simp only[go_sem,f]);exact x.out):G:=k f ⟨x⟩
theorem xS {X G:Prop} (x:X) (k:X6 X→G:=by intro x;(try simp only[go_sem]);exact x.out):G:=k ⟨x⟩
theorem yT {F X G C:Prop} (c:C) (f:F) (x:X) (k:C→F→X6 X→G:=by intro c f x;refine I1 c rfl fun R r=>?_;simp only[go_sem,f];refine r _ rfl ?_;clear r R;exact x.out):G:=k c f ⟨x⟩
theorem xT {X G C:Prop} (c:C) (x:X) (k:C→X6 X→G:=by intro c x;refine I1 c rfl fun R r=>?_;simp only[go_sem];refine r _ rfl ?_;clear r R;exact x.out):G:=k c ⟨x⟩
theorem yU {F X G:Prop} (f:F) (x:X) (k:F→X6 X→G:=by intro f x;refine Hc rfl fun R r=>?_;simp only[go_sem,f];refine r _ rfl ?_;clear r R;exact x.out):G:=k f ⟨x⟩
theorem xU {X G:Prop} (x:X) (k:X6 X→G:=by intro x;refine Hc rfl fun R r=>?_;simp only[go_sem];refine r _ rfl ?_;clear r R;exact x.out):G:=k ⟨x⟩
theorem yV {F X G:Prop} (f:F) (x:X) (k:F→X6 X→G:=by intro f x;refine Hd rfl fun R r=>?_;simp only[go_sem,f];refine r _ rfl ?_;clear r R;exact x.out):G:=k f ⟨x⟩
theorem xV {X G:Prop} (x:X) (k:X6 X→G:=by intro x;refine Hd rfl fun R r=>?_;simp only[go_sem];refine r _ rfl ?_;clear r R;exact x.out):G:=k ⟨x⟩
theorem zE {F P:Prop} (f:F) (k:F→P:=by intro f;simp only[go_sem,f]<;>rfl):P:=k f
theorem eE {P:Prop} (k:P:=by simp only[go_sem]<;>rfl):P:=k
theorem zB {F P:Prop} (f:F) (k:F→P:=by intro f;simp only[go_sem,f]<;>and_intros<;>first|exact True.intro|(with_reducible rfl)|exact Ul om|rfl):P:=k f
theorem eB {P:Prop} (k:P:=by simp only[go_sem]<;>and_intros<;>first|exact True.intro|(with_reducible rfl)|exact Ul om|rfl):P:=k
theorem zZ {α:Type} {l:List α}:l.Sublist l:=Lr l
theorem zL {F P:Prop} (f:F) (k:F→P:=by intro f;first|exact True.intro|simp only[go_sem,f]<;>and_intros<;>first|exact True.intro|exact .c (.refl _)|exact .c gN|exact .agg (Zf _)|exact .agg (by simp only[gQ];and_intros<;>first|exact True.intro|exact .refl _|exact gN)|exact .c .ab):P:=k f
theorem eL {P:Prop} (k:P:=by first|exact True.intro|simp only[go_sem]<;>and_intros<;>first|exact True.intro|exact .c (.refl _)|exact .c gN|exact .agg (Zf _)|exact .agg (by simp only[gQ];and_intros<;>first|exact True.intro|exact .refl _|exact gN)|exact .c .ab):P:=k
section
variable {E : Vj} {K : List It} {σ : Sl} {h : Qa} {all l rest : List Oper} {o : Oper} {F : Prop}
theorem yC {f:FuncId} {xs:List Operand} {ts:Array TypeId} {args:List AV} {r:AV} {X:Prop} (q:F) (hf:Fa E.P f args r) (x:X) (au:o.op=.call {callee:=.value (.func f),args:=xs.toArray,argTypes:=ts}:=by exact rfl) (hw:Qu all σ o=some true:=by exact rfl) (hd:Qs E.N o.dst=true:=by exact rfl)
 (le:F→JT h (xs.map (ev σ)) args:=by intro f;first|exact True.intro|simp only[go_sem,f]<;>and_intros<;>first|exact True.intro|exact .c (.refl _)|exact .c gN|exact .agg (Zf _)|exact .agg (by simp only[gQ];and_intros<;>first|exact True.intro|exact .refl _|exact gN)|exact .c .ab) (k:F→X6 X→aw E (.ops all rest::K) (σ.az o.dst r) h:=by intro f x;(try simp only[go_sem,f]);exact x.out):aw E (.ops all (o::rest)::K) σ h:=Qr hf au hw hd (le q) (k q ⟨x⟩)
theorem xC {f:FuncId} {xs:List Operand} {ts:Array TypeId} {args:List AV} {r:AV} {X:Prop} (hf:Fa E.P f args r) (x:X) (au:o.op=.call {callee:=.value (.func f),args:=xs.toArray,argTypes:=ts}:=by exact rfl) (hw:Qu all σ o=some true:=by exact rfl) (hd:Qs E.N o.dst=true:=by exact rfl)
 (le:JT h (xs.map (ev σ)) args:=by first|exact True.intro|simp only[go_sem]<;>and_intros<;>first|exact True.intro|exact .c (.refl _)|exact .c gN|exact .agg (Zf _)|exact .agg (by simp only[gQ];and_intros<;>first|exact True.intro|exact .refl _|exact gN)|exact .c .ab) (k:X6 X→aw E (.ops all rest::K) (σ.az o.dst r) h:=by intro x;(try simp only[go_sem]);exact x.out):aw E (.ops all (o::rest)::K) σ h:=Qr hf au hw hd le (k ⟨x⟩)
theorem yD {f:FuncId} {xs:List Operand} {ts:Array TypeId} {args:List AV} {r:AV} {n:Nat} {X:Prop} (q:F) (hf:Fa E.P f args r) (x:X) (au:o.op=.call {callee:=.value (.func f),args:=xs.toArray,argTypes:=ts}:=by exact rfl) (hw:Qu l σ o=some true:=by exact rfl) (hd:Qs E.N o.dst=true:=by exact rfl)
 (le:F→JT h (xs.map (ev σ)) args:=by intro f;first|exact True.intro|simp only[go_sem,f]<;>and_intros<;>first|exact True.intro|exact .c (.refl _)|exact .c gN|exact .agg (Zf _)|exact .agg (by simp only[gQ];and_intros<;>first|exact True.intro|exact .refl _|exact gN)|exact .c .ab) (k:F→X6 X→YO E h l K n rest (σ.az o.dst r):=by intro f x;(try simp only[go_sem,f]);exact x.out):YO E h l K (n+1) (o::rest) σ:=wP hf au hw hd (le q) (k q ⟨x⟩)
theorem xD {f:FuncId} {xs:List Operand} {ts:Array TypeId} {args:List AV} {r:AV} {n:Nat} {X:Prop} (hf:Fa E.P f args r) (x:X) (au:o.op=.call {callee:=.value (.func f),args:=xs.toArray,argTypes:=ts}:=by exact rfl) (hw:Qu l σ o=some true:=by exact rfl) (hd:Qs E.N o.dst=true:=by exact rfl)
 (le:JT h (xs.map (ev σ)) args:=by first|exact True.intro|simp only[go_sem]<;>and_intros<;>first|exact True.intro|exact .c (.refl _)|exact .c gN|exact .agg (Zf _)|exact .agg (by simp only[gQ];and_intros<;>first|exact True.intro|exact .refl _|exact gN)|exact .c .ab) (k:X6 X→YO E h l K n rest (σ.az o.dst r):=by intro x;(try simp only[go_sem]);exact x.out):YO E h l K (n+1) (o::rest) σ:=wP hf au hw hd le (k ⟨x⟩)
theorem yB {t:TypeId} {y:Operand} {v:AV} {X N:Nat→Prop} (q:F) (x:∀g,N g→X g) (au:o.op=.box t y:=by exact rfl) (hw:Qu all σ o=some true:=by exact rfl) (hd:Qs E.N o.dst=true:=by exact rfl) (hx:F→ev σ y=v:=by intro f;simp only[go_sem,f]<;>rfl) (gj:∀xs,v≠.aF xs:=by exact fun _ e=>by cases e) (hs:v.cells.all CV.aX=true:=by first|exact rfl|exact dR)
  (hn:∀g,g∉h.keys→N g:=by intro g h;replace h:=Qa.ay h;(first|dsimp only [Qa.ne,gh] at h|dsimp only [Qa.ne] at h|skip);exact h) (k:F→∀g,N g→X6 (X g)→aw E (.ops all rest::K) (σ.az o.dst (.c (.aj g 0))) ((g,.cells t v.cells.length (ao v.cells))::h):=by intro f g e x;(try simp only[go_sem,f,e]);exact x.out):aw E (.ops all (o::rest)::K) σ h:=
 VL au hw hd (hx q) gj hs fun g hg=>k q g (hn g hg) ⟨x g (hn g hg)⟩
theorem xB {t:TypeId} {y:Operand} {v:AV} {X N:Nat→Prop} (x:∀g,N g→X g) (au:o.op=.box t y:=by exact rfl) (hw:Qu all σ o=some true:=by exact rfl) (hd:Qs E.N o.dst=true:=by exact rfl) (hx:ev σ y=v:=by simp only[go_sem]<;>rfl) (gj:∀xs,v≠.aF xs:=by exact fun _ e=>by cases e) (hs:v.cells.all CV.aX=true:=by first|exact rfl|exact dR)
  (hn:∀g,g∉h.keys→N g:=by intro g h;replace h:=Qa.ay h;(first|dsimp only [Qa.ne,gh] at h|dsimp only [Qa.ne] at h|skip);exact h) (k:∀g,N g→X6 (X g)→aw E (.ops all rest::K) (σ.az o.dst (.c (.aj g 0))) ((g,.cells t v.cells.length (ao v.cells))::h):=by intro g e x;(try simp only[go_sem,e]);exact x.out):aw E (.ops all (o::rest)::K) σ h:=
 VL au hw hd hx gj hs fun g hg=>k g (hn g hg) ⟨x g (hn g hg)⟩
theorem yA {t:TypeId} {z:List CV} {X N:Nat→Prop} (q:F) (x:∀g,N g→X g) (au:o.op=.alloc t:=by exact rfl) (hw:Qu all σ o=some true:=by exact rfl) (hd:Qs E.N o.dst=true:=by exact rfl) (hz:F→Qk E.P t=some z:=by intro f;simp only[go_sem,f]<;>rfl)
  (hn:∀g,g∉h.keys→N g:=by intro g h;replace h:=Qa.ay h;(first|dsimp only [Qa.ne,gh] at h|dsimp only [Qa.ne] at h|skip);exact h) (k:F→∀g,N g→X6 (X g)→aw E (.ops all rest::K) (σ.az o.dst (.c (.aj g 0))) ((g,.cells t z.length (ao z))::h):=by intro f g e x;(try simp only[go_sem,f,e]);exact x.out):aw E (.ops all (o::rest)::K) σ h:=
 Bm au hw hd (hz q) fun g hg=>k q g (hn g hg) ⟨x g (hn g hg)⟩
theorem xA {t:TypeId} {z:List CV} {X N:Nat→Prop} (x:∀g,N g→X g) (au:o.op=.alloc t:=by exact rfl) (hw:Qu all σ o=some true:=by exact rfl) (hd:Qs E.N o.dst=true:=by exact rfl) (hz:Qk E.P t=some z:=by simp only[go_sem]<;>rfl)
  (hn:∀g,g∉h.keys→N g:=by intro g h;replace h:=Qa.ay h;(first|dsimp only [Qa.ne,gh] at h|dsimp only [Qa.ne] at h|skip);exact h) (k:∀g,N g→X6 (X g)→aw E (.ops all rest::K) (σ.az o.dst (.c (.aj g 0))) ((g,.cells t z.length (ao z))::h):=by intro g e x;(try simp only[go_sem,e]);exact x.out):aw E (.ops all (o::rest)::K) σ h:=
 Bm au hw hd hz fun g hg=>k g (hn g hg) ⟨x g (hn g hg)⟩
theorem yW {t g off m n:Nat} {ty:TypeId} {ag:Bool} {fc:Nat→CV} {a y:Operand} {v:AV} {h':Qa} (q:F) (k:aw E (.ops all rest::K) σ h') (au:o.op=.store t a y:=by exact rfl) (hw:Qu all σ o=some true:=by exact rfl) (hd:Qs E.N o.dst=true:=by exact rfl) (hY:o.dst=none:=by exact rfl) (ha:F→ev σ a=.c (.aj g off):=by intro f;simp only[go_sem,f]<;>rfl) (hx:F→ev σ y=v:=by intro f;simp only[go_sem,f]<;>rfl)
 (hg:F→h.get g=some (.cells ty m fc):=by intro f;simp only[go_sem,f]<;>rfl) (ht:F→XC E.P t=some (ag,n):=by intro f;simp only[go_sem,f]<;>rfl) (gj:∀xs,v≠.aF xs:=by exact fun _ e=>by cases e) (hs:v.cells.all CV.aX=true:=by first|rfl|exact dR) (hlen:v.cells.length=n:=by rfl) (hle:off+n≤m:=by first|omega|simp)
 (hh:h.set g (.cells ty m (Vl fc off v.cells))=h':=by exact rfl):aw E (.ops all (o::rest)::K) σ h:=Kn au hw hd hY (ha q) (hx q) (hg q) (ht q) gj hs hlen hle hh k
theorem xW {t g off m n:Nat} {ty:TypeId} {ag:Bool} {fc:Nat→CV} {a y:Operand} {v:AV} {h':Qa} (k:aw E (.ops all rest::K) σ h') (au:o.op=.store t a y:=by exact rfl) (hw:Qu all σ o=some true:=by exact rfl) (hd:Qs E.N o.dst=true:=by exact rfl) (hY:o.dst=none:=by exact rfl) (ha:ev σ a=.c (.aj g off):=by simp only[go_sem]<;>rfl) (hx:ev σ y=v:=by simp only[go_sem]<;>rfl)
 (hg:h.get g=some (.cells ty m fc):=by simp only[go_sem]<;>rfl) (ht:XC E.P t=some (ag,n):=by simp only[go_sem]<;>rfl) (gj:∀xs,v≠.aF xs:=by exact fun _ e=>by cases e) (hs:v.cells.all CV.aX=true:=by first|rfl|exact dR) (hlen:v.cells.length=n:=by rfl) (hle:off+n≤m:=by first|omega|simp)
 (hh:h.set g (.cells ty m (Vl fc off v.cells))=h':=by exact rfl):aw E (.ops all (o::rest)::K) σ h:=Kn au hw hd hY ha hx hg ht gj hs hlen hle hh k
theorem yF {t:Nat} {y z:Code} {b:Bool} (q:F) (k1:b=true→aw E (.code y::K) σ h) (k2:b=false→aw E (.code z::K) σ h) (hb:F→σ.get t=.c (.bool b):=by intro f;simp only[go_sem,f]<;>rfl):aw E (.code (.cond (.tmp t) y z)::K) σ h:=QQ (hb q) k1 k2
theorem xF {t:Nat} {y z:Code} {b:Bool} (k1:b=true→aw E (.code y::K) σ h) (k2:b=false→aw E (.code z::K) σ h) (hb:σ.get t=.c (.bool b):=by simp only[go_sem]<;>rfl):aw E (.code (.cond (.tmp t) y z)::K) σ h:=QQ hb k1 k2
theorem yP {t:Nat} {y z:Code} (q:F) (k:aw E (.code y::K) σ h) (hb:F→σ.get t=.c (.bool true):=by intro f;simp only[go_sem,f]<;>rfl):aw E (.code (.cond (.tmp t) y z)::K) σ h:=He (hb q) k
theorem xP {t:Nat} {y z:Code} (k:aw E (.code y::K) σ h) (hb:σ.get t=.c (.bool true):=by simp only[go_sem]<;>rfl):aw E (.code (.cond (.tmp t) y z)::K) σ h:=He hb k
theorem yN {t:Nat} {y z:Code} (q:F) (k:aw E (.code z::K) σ h) (hb:F→σ.get t=.c (.bool false):=by intro f;simp only[go_sem,f]<;>rfl):aw E (.code (.cond (.tmp t) y z)::K) σ h:=Hf (hb q) k
theorem xN {t:Nat} {y z:Code} (k:aw E (.code z::K) σ h) (hb:σ.get t=.c (.bool false):=by simp only[go_sem]<;>rfl):aw E (.code (.cond (.tmp t) y z)::K) σ h:=Hf hb k
end
end
theorem qF {X G:Prop} (x:X) (k:X6 X→G:=by intro x;refine xG ?_;refine xN ?_;refine xG ?_;refine xV ?_;exact x.out):G:=k ⟨x⟩
theorem oe {X G:Prop} (x:X) (k:X6 X→G:=by intro x;refine xG ?_;refine xP ?_;refine xG ?_;exact x.out):G:=k ⟨x⟩
theorem eS {X G C:Prop} (c:C) (x:X) (k:C→X6 X→G:=by intro c x;refine xG ?_;refine xT c ?_;exact x.out):G:=k c ⟨x⟩
theorem ZA {X G:Prop} (x:X) (k:X6 X→G:=by intro x;refine xS ?_;refine xG ?_;exact x.out):G:=k ⟨x⟩
theorem JW {X G C:Prop} (c:C) (x:X) (k:C→X6 X→G:=by intro c x;refine xS ?_;refine xG ?_;refine xT c ?_;exact x.out):G:=k c ⟨x⟩
theorem ma {X G:Prop} (x:X) (k:X6 X→G:=by intro x;refine xS ?_;refine xG ?_;refine xU ?_;exact x.out):G:=k ⟨x⟩
theorem OZ {F X G C:Prop} (c:C) (f:F) (x:X) (k:C→F→X6 X→G:=by intro c f x;refine yG f ?_;refine yT c f ?_;exact x.out):G:=k c f ⟨x⟩
theorem V8 {F X G C:Prop} (c:C) (f:F) (x:X) (k:C→F→X6 X→G:=by intro c f x;refine yG f ?_;refine yW f ?_;refine yS f ?_;refine yG f ?_;refine yT c f ?_;exact x.out):G:=k c f ⟨x⟩
theorem Xw {F X G:Prop} (f:F) (x:X) (k:F→X6 X→G:=by intro f x;refine yS f ?_;refine yG f ?_;exact x.out):G:=k f ⟨x⟩
theorem mc {F X G C:Prop} (c:C) (f:F) (x:X) (k:C→F→X6 X→G:=by intro c f x;refine yS f ?_;refine yG f ?_;refine yT c f ?_;exact x.out):G:=k c f ⟨x⟩
theorem pw {F X G:Prop} (f:F) (x:X) (k:F→X6 X→G:=by intro f x;refine yS f ?_;refine yG f ?_;refine yV f ?_;exact x.out):G:=k f ⟨x⟩
end Go.AI
namespace Go.Proofs.YtjegkdadeghpjaaGreatDoor
open Go.AI Tryz
@[go_sem] theorem Xp:QP prog 67=some (180,1,4):=by kernel_rfl
@[go_sem] theorem Qvi:XC prog 180=some (false,1):=by kernel_rfl
@[go_sem] theorem Xf:Qk prog 180=some [.int .u32 0]:=by kernel_rfl
@[go_sem] theorem Qvj:ZC prog 180=some .u32:=by kernel_rfl
@[go_sem] theorem Qvk:ZC prog 80=some .u64:=by kernel_rfl
@[go_sem] theorem Qvl:ZC prog 3=some .i64:=by kernel_rfl
@[go_sem] theorem Qu2:o8 prog 4=true:=by kernel_rfl
@[go_sem] theorem Qvm:ZC prog 32=some .i64:=by kernel_rfl
@[go_sem] theorem Qvn:OQ prog 28=true:=by kernel_rfl
@[go_sem] theorem Qg:prog.follows .mixedOrders=true:=by kernel_rfl
end Go.Proofs.YtjegkdadeghpjaaGreatDoor
namespace Go.PN
def val:List Nat→Nat
 |[]=>0
 |x::xs=>x+4294967296*val xs
def Qc (n:Nat):List Nat:=if h:n=0 then [] else n%4294967296::Qc (n/4294967296)
termination_by n
decreasing_by omega
theorem QA:Qc 0=[]:=by rw [Qc];simp
theorem XW {n:Nat} (h:n≠0):Qc n=n%4294967296::Qc (n/4294967296):=by rw [Qc];simp [h]
theorem Qos {x v:Nat} (hx:x<4294967296) (h:x≠0∨v≠0):Qc (x+4294967296*v)=x::Qc v:=by
 rw [XW om]
 congr 1
 ·omega
 ·congr 1;omega
theorem Qd (n:Nat):val (Qc n)=n:=by
 induction n using Nat.strongRecOn with
 |ind n ih=>
  by_cases h:n=0
  ·subst h;rw [QA];rfl
  ·rw [XW h,val,ih _ om];omega
theorem Qp (n:Nat):∀x∈Qc n,x<4294967296:=by
 induction n using Nat.strongRecOn with
 |ind n ih=>
  by_cases h:n=0
  ·subst h;rw [QA];simp
  ·rw [XW h]
   intro x hx
   simp only [Lb] at hx
   rcases hx with rfl|hx
   ·omega
   ·exact ih _ om x hx
theorem Xb {n:Nat}:Qc n=[]↔n=0:=by
 constructor
 ·intro h
  have:=Qd n
  rw [h] at this
  exact this.symm
 ·rintro rfl;exact QA
theorem Qmv {a b:Nat} (h:Qc a=Qc b):a=b:=by rw [←Qd a,h,Qd]
theorem Je {xs:List Nat} (h:∀x∈xs,x=0):val xs=0:=by
 induction xs with
 |nil=>rfl
 |cons x xs ih=>rw [val,ih (fun y hy=>h y (by simp [hy])),h x (by simp)]
theorem wV:∀(xs:List Nat) (n:Nat),(∀x∈xs,x<4294967296)→n≤xs.length→(∀j,n≤j→xs.getD j 0=0)→(n=0∨xs.getD (n-1) 0≠0)→Qc (val xs)=xs.take n
 |[],n,_,hn,_,_=>by simp at hn;subst hn;simp [val,QA]
 |x::xs,0,hx,_,hz,_=>by
  have:val (x::xs)=0:=Je (fun y hy=>by
   obtain⟨j,hj,rfl⟩:=List.getElem_of_mem hy
   have:=hz j (Lz _)
   rw [Lg,Li hj] at this
   exact this)
  rw [this,QA];rfl
 |x::xs,n+1,hx,hn,hz,hl=>by
  have Rq:x<4294967296:=hx x (by simp)
  have ih:=wV xs n (fun y hy=>hx y (by simp [hy])) (by simpa using hn) (fun j hj=>by simpa using hz (j+1) om) (by
   cases n with
   |zero=>exact .inl rfl
   |succ n=>right;simpa using hl.resolve_left om)
  rw [val,Qos Rq,ih]
  ·rfl
  ·cases n with
   |zero=>left;simpa using hl.resolve_left om
   |succ n=>
    right
    intro h0
    rw [h0,QA] at ih
    have:=congrArg List.length ih
    simp at this hn
    omega
def Plain (xs:List Nat):Prop:=xs=[]∨xs.getD (xs.length-1) 0≠0
theorem Qmw {xs:List Nat} (hx:∀x∈xs,x<4294967296) (hp:Plain xs):Qc (val xs)=xs:=by
 have:=wV xs xs.length hx (Ac _) (fun j hj=>by rw [Lg,List.getElem?_eq_none hj];rfl) (by
  rcases hp with rfl|hp
  ·left;rfl
  ·exact .inr hp)
 rwa [Lk] at this
theorem Kr (n:Nat):Plain (Qc n):=by
 induction n using Nat.strongRecOn with
 |ind n ih=>
  by_cases h:n=0
  ·subst h;left;exact QA
  ·right
   rw [XW h]
   by_cases h2:n/4294967296=0
   ·rw [h2,QA];simp;omega
   ·have:=ih _ (by omega:n/4294967296<n)
    rcases this with e|e
    ·rw [Xb] at e;exact absurd e h2
    ·have hl:0<(Qc (n/4294967296)).length:=by
      rcases Nat.eq_zero_or_pos (Qc (n/4294967296)).length with h0|h0
      ·rw [Lh,Xb] at h0;exact absurd h0 h2
      ·exact h0
     rw [Lc,show(Qc (n/4294967296)).length+1-1=((Qc (n/4294967296)).length-1)+1 from by omega]
     simpa using e
theorem Z0:∀(xs:List Nat),(∀x∈xs,x<4294967296)→val xs<4294967296^xs.length
 |[],_=>by simp [val]
 |x::xs,hx=>by
  have h1:=Z0 xs (fun y hy=>hx y (by simp [hy]))
  have h2:=hx x (by simp)
  rw [val,Lc,Nat.pow_succ]
  omega
theorem V9 (xs ys:List Nat):val (xs++ys)=val xs+4294967296^xs.length*val ys:=by
 induction xs with
 |nil=>simp [val]
 |cons x xs ih=>rw [Lq,val,val,ih,Lc,Nat.pow_succ,Nat.mul_add,←Nat.add_assoc,←Na,Nc 4294967296 (4294967296^xs.length)]
theorem QI {xs:List Nat} (hx:∀x∈xs,x<4294967296) (i:Nat):xs.getD i 0<4294967296:=by
 rw [Lg]
 cases h:xs[i]? with
 |none=>simp
 |some x=>exact hx x (List.mem_of_getElem? h)
theorem ZR {xs:List Nat} {i:Nat} (h:xs.length≤i):xs.getD i 0=0:=by
 rw [Lg,List.getElem?_eq_none h];rfl
theorem Us {xs:List Nat} {n j:Nat} (h:j<n):(xs.take n).getD j 0=xs.getD j 0:=by
 rw [Lg,Lg,List.getElem?_take,iP h]
theorem Qx (xs:List Nat) (i:Nat):val (xs.take (i+1))=val (xs.take i)+4294967296^i*xs.getD i 0:=by
 by_cases h:i<xs.length
 ·rw [List.take_succ_eq_append_getElem h,V9,Lg,Li h]
  simp [val,List.length_take,Nat.min_eq_left (Ll h)]
 ·rw [ZR om,Ly om,Ly om];simp
theorem HQ (zs:List Nat) (i v:Nat):(zs.set i v).take i=zs.take i:=by
 apply List.ext_getElem?
 intro j
 simp only [List.getElem?_take]
 by_cases h:j<i
 ·rw [iP h,iP h,List.getElem?_set_ne om]
 ·rw [iN h,iN h]
theorem aA {zs:List Nat} {i v:Nat} (h:i<zs.length):(zs.set i v).getD i 0=v:=by
 simp [Lg,h]
theorem U1 {zs:List Nat} {i v:Nat} (h:i<zs.length):val ((zs.set i v).take (i+1))=val (zs.take i)+4294967296^i*v:=by
 rw [Qx,HQ,aA h]
theorem JX (n:Nat):val (List.replicate n 0)=0:=Je (fun x hx=>(List.mem_replicate.1 hx).2)
theorem KD {zs:List Nat} {i v:Nat} (hz:∀x∈zs,x<4294967296) (hv:v<4294967296):∀x∈zs.set i v,x<4294967296:=fun x hx=>by
 rcases List.mem_or_eq_of_mem_set hx with h|h
 ·exact hz x h
 ·omega
theorem YG (n:Nat):∀x∈List.replicate n 0,x<4294967296:=fun x hx=>by rw [(List.mem_replicate.1 hx).2];omega
def Zs (a b:Nat):Int:=if a<b then-1 else if a=b then 0 else 1
theorem Yd (n:Nat):n<4294967296^(Qc n).length:=by
 have:=Z0 (Qc n) (Qp n)
 rwa [Qd] at this
theorem XX {n k:Nat} (h:n<4294967296^k):(Qc n).length≤k:=by
 induction k generalizing n with
 |zero=>have:n=0:=by simpa using h
        subst this;rw [QA];simp
 |succ k ih=>
  by_cases h0:n=0
  ·subst h0;rw [QA];simp
  ·rw [XW h0,Lc]
   have:= @ih (n/4294967296) (by rw [Nat.pow_succ] at h;exact Nat.div_lt_of_lt_mul om)
   omega
theorem Fm {n:Nat} (h:n≠0):4294967296^((Qc n).length-1)≤n:=by
 rcases Nat.lt_or_ge n (4294967296^((Qc n).length-1)) with aD|eu
 ·have:=XX aD
  have hl:(Qc n).length≠0:=fun e=>h (Xb.1 (Lh.1 e))
  omega
 ·exact eu
theorem QR (xs:List Nat) (hx:∀x∈xs,x<4294967296):(Qc (val xs)).length≤xs.length:=XX (Z0 xs hx)
theorem QK {a b:Nat} (h:a≤b):(Qc a).length≤(Qc b).length:=XX (Nat.lt_of_le_of_lt h (Yd b))
theorem SJ {a b:Nat} (h:(Qc a).length<(Qc b).length):Zs a b= -1:=by
 have:a<b:=by
  rcases Nat.lt_or_ge a b with h1|h1
  ·exact h1
  ·have:=QK h1;omega
 simp [Zs,this]
theorem SK {a b:Nat} (h:(Qc b).length<(Qc a).length):Zs a b=1:=by
 have:b<a:=by
  rcases Nat.lt_or_ge b a with h1|h1
  ·exact h1
  ·have:=QK h1;omega
 unfold Zs
 rw [iN om,iN om]
theorem Be (xs:List Nat) {i:Nat} (h:i<xs.length):xs.drop i=xs.getD i 0::xs.drop (i+1):=by
 rw [List.drop_eq_getElem_cons h,Lg,Li h];rfl
theorem Ks (xs:List Nat) (i:Nat):val (xs.drop i)=xs.getD i 0+4294967296*val (xs.drop (i+1)):=by
 by_cases h:i<xs.length
 ·rw [List.drop_eq_getElem_cons h,val,Lg,Li h];rfl
 ·rw [ZR om,List.drop_eq_nil_of_le om,List.drop_eq_nil_of_le om];rfl
theorem YB (xs:List Nat) (i:Nat) (h:i≤xs.length):val xs=val (xs.take i)+4294967296^i*val (xs.drop i):=by
 have:=V9 (xs.take i) (xs.drop i)
 rwa [List.take_append_drop,List.length_take,Nat.min_eq_left h] at this
theorem XF (xs:List Nat) (hx:∀x∈xs,x<4294967296) (i:Nat) (h:i≤xs.length):val (xs.take i)<4294967296^i:=by
 have:=Z0 (xs.take i) (fun x hm=>hx x (List.mem_of_mem_take hm))
 rwa [List.length_take,Nat.min_eq_left h] at this
theorem I6 {xs ys:List Nat} {i:Nat} (hx:∀x∈xs,x<4294967296) (hy:∀x∈ys,x<4294967296) (h1:i<xs.length) (h2:i<ys.length) (hd:xs.drop (i+1)=ys.drop (i+1)) (aD:xs.getD i 0<ys.getD i 0):val xs<val ys:=by
 rw [YB xs i om,YB ys i om,Ks xs i,Ks ys i,hd]
 have h3:=XF xs hx i om
 have h5:4294967296^i*(xs.getD i 0+4294967296*val (ys.drop (i+1))+1)≤4294967296^i*(ys.getD i 0+4294967296*val (ys.drop (i+1))):=Nat.mul_le_mul_left _ om
 rw [Nat.mul_add,Ad] at h5
 omega
theorem BL {xs ys zs:List Nat} {i c:Nat} (hi:i<zs.length) (h:val (zs.take i)+4294967296^i*c=val (xs.take i)+val (ys.take i)):
  val ((zs.set i ((c+(xs.getD i 0+ys.getD i 0))%4294967296)).take (i+1))+4294967296^(i+1)*((c+(xs.getD i 0+ys.getD i 0))/4294967296)=val (xs.take (i+1))+val (ys.take (i+1)):=by
 rw [U1 hi,Qx,Qx,Nat.pow_succ]
 generalize xs.getD i 0=x at*
 generalize ys.getD i 0=y at*
 have e:(c+(x+y))%4294967296+4294967296*((c+(x+y))/4294967296)=c+(x+y):=Nat.mod_add_div _ _
 have e2:4294967296^i*((c+(x+y))%4294967296)+4294967296^i*4294967296*((c+(x+y))/4294967296)=4294967296^i*(c+(x+y)):=by
  rw [Na,←Nat.mul_add,e]
 rw [Nat.mul_add,Nat.mul_add] at e2
 omega
theorem I7 {xs ys zs:List Nat} {c:Nat} (hx:∀x∈xs,x<4294967296) (hy:∀x∈ys,x<4294967296) (hl:zs.length=max xs.length ys.length+1)
  (h:val (zs.take zs.length)+4294967296^zs.length*c=val (xs.take zs.length)+val (ys.take zs.length)):val zs=val xs+val ys:=by
 rw [Lk,Ly om,Ly om] at h
 have h1:=Z0 xs hx
 have h2:=Z0 ys hy
 have h3:(4294967296:Nat)^xs.length≤4294967296^(max xs.length ys.length):=Nat.pow_le_pow_right om om
 have h4:(4294967296:Nat)^ys.length≤4294967296^(max xs.length ys.length):=Nat.pow_le_pow_right om om
 have h5:(4294967296:Nat)^zs.length=4294967296^(max xs.length ys.length)*4294967296:=by rw [hl,Nat.pow_succ]
 rcases Nat.eq_zero_or_pos c with rfl|hc
 ·simpa using h
 ·have h6:4294967296^zs.length*1≤4294967296^zs.length*c:=Nat.mul_le_mul_left _ hc
  have h7:0<4294967296^(max xs.length ys.length):=Nat.pow_pos om
  omega
def Jf (x y b:Nat):Nat:=(x+18446744073709551616-y-b)%18446744073709551616
theorem HR {xs ys zs:List Nat} {i b:Nat} (hi:i<zs.length) (hx:xs.getD i 0<4294967296) (hy:ys.getD i 0<4294967296) (hb:b≤1) (h:val (zs.take i)+val (ys.take i)=val (xs.take i)+4294967296^i*b):
  val ((zs.set i (Jf (xs.getD i 0) (ys.getD i 0) b%4294967296)).take (i+1))+val (ys.take (i+1))=val (xs.take (i+1))+4294967296^(i+1)*(Jf (xs.getD i 0) (ys.getD i 0) b/9223372036854775808)∧Jf (xs.getD i 0) (ys.getD i 0) b/9223372036854775808≤1:=by
 rw [U1 hi,Qx,Qx,Nat.pow_succ]
 generalize xs.getD i 0=x at*
 generalize ys.getD i 0=y at*
 have hd:Jf x y b%4294967296+(y+b)=x+4294967296*(Jf x y b/9223372036854775808)∧Jf x y b/9223372036854775808≤1:=by
  unfold Jf
  rcases Nat.lt_or_ge x (y+b) with h1|h1<;>omega
 generalize Jf x y b%4294967296=v at*
 generalize Jf x y b/9223372036854775808=b' at*
 have e2:4294967296^i*(v+(y+b))=4294967296^i*(x+4294967296*b'):=by rw [hd.1]
 rw [Nat.mul_add,Nat.mul_add,Nat.mul_add,←Na] at e2
 exact⟨by omega,hd.2⟩
theorem I8 {xs ys zs:List Nat} {b:Nat} (hx:∀x∈xs,x<4294967296) (hz:∀x∈zs,x<4294967296) (hl:zs.length=xs.length) (hle:val ys≤val xs)
  (h:val (zs.take xs.length)+val (ys.take xs.length)=val (xs.take xs.length)+4294967296^xs.length*b):val zs=val xs-val ys:=by
 rw [←hl,Lk,hl,Lk] at h
 have h1:=Z0 xs hx
 have h2:=Z0 zs hz
 rw [hl] at h2
 have h3:val (ys.take xs.length)=val ys:=by
  by_cases hc:xs.length≤ys.length
  ·have:=YB ys xs.length hc
   rcases Nat.eq_zero_or_pos (val (ys.drop xs.length)) with h0|h0
   ·rw [h0] at this;omega
   ·have:=Nat.mul_le_mul_left (4294967296^xs.length) h0
    omega
  ·rw [Ly om]
 rcases Nat.eq_zero_or_pos b with rfl|hb
 ·omega
 ·have:=Nat.mul_le_mul_left (4294967296^xs.length) hb
  omega
theorem wW {zs:List Nat} {j v:Nat} (h:j<zs.length):val (zs.set j v)+4294967296^j*zs.getD j 0=val zs+4294967296^j*v:=by
 have h1:=YB (zs.set j v) j (by simp;omega)
 have h2:=YB zs j om
 rw [HQ] at h1
 have h3:=Ks (zs.set j v) j
 have h4:=Ks zs j
 have h5:(zs.set j v).drop (j+1)=zs.drop (j+1):=by
  apply List.ext_getElem?
  intro q
  rw [List.getElem?_drop,List.getElem?_drop,List.getElem?_set_ne om]
 rw [aA h,h5] at h3
 rw [h3] at h1
 rw [h4] at h2
 rw [h1,h2,Nat.mul_add,Nat.mul_add]
 omega
theorem KE {zs:List Nat} {m j:Nat} (h:val zs<4294967296^m) (hj:m≤j):zs.getD j 0=0:=by
 by_cases hl:j<zs.length
 ·have h1:=YB zs j om
  rw [Ks zs j] at h1
  rcases Nat.eq_zero_or_pos (zs.getD j 0) with h0|h0
  ·exact h0
  ·have h2:(4294967296:Nat)^m≤4294967296^j:=Nat.pow_le_pow_right om hj
   have h3:=Nat.mul_le_mul_left (4294967296^j) (show 1≤zs.getD j 0+4294967296*val (zs.drop (j+1)) from by omega)
   omega
 ·exact ZR om
theorem getD_set_ne {zs:List Nat} {i j v:Nat} (h:i≠j):(zs.set i v).getD j 0=zs.getD j 0:=by
 rw [Lg,Lg,List.getElem?_set_ne h]
theorem HS {zs ys:List Nat} {i k c x V:Nat} (hk:i+k<zs.length) (h:val zs+4294967296^(i+k)*c=V+4294967296^i*(x*val (ys.take k))):
  val (zs.set (i+k) ((c+(x*ys.getD k 0+zs.getD (i+k) 0))%4294967296))+4294967296^(i+(k+1))*((c+(x*ys.getD k 0+zs.getD (i+k) 0))/4294967296)=V+4294967296^i*(x*val (ys.take (k+1))):=by
 have h1:=wW (v:=(c+(x*ys.getD k 0+zs.getD (i+k) 0))%4294967296) hk
 generalize zs.getD (i+k) 0=z at*
 have e:(c+(x*ys.getD k 0+z))%4294967296+4294967296*((c+(x*ys.getD k 0+z))/4294967296)=c+(x*ys.getD k 0+z):=Nat.mod_add_div _ _
 have e2:4294967296^(i+k)*((c+(x*ys.getD k 0+z))%4294967296)+4294967296^(i+(k+1))*((c+(x*ys.getD k 0+z))/4294967296)=4294967296^(i+k)*c+4294967296^(i+k)*(x*ys.getD k 0)+4294967296^(i+k)*z:=by
  rw [show i+(k+1)=(i+k)+1 from by omega,Nat.pow_succ,Na,←Nat.mul_add,e,Nat.mul_add,Nat.mul_add,Nat.add_assoc]
 have e3:4294967296^i*(x*val (ys.take (k+1)))=4294967296^i*(x*val (ys.take k))+4294967296^(i+k)*(x*ys.getD k 0):=by
  rw [Qx,Nat.mul_add,Nat.mul_add,Nat.pow_add,Nat.mul_left_comm x,Na]
 omega
theorem Ut {x y:Nat} (hx:x<4294967296) (hy:y<4294967296):x*y≤18446744065119617025:=by
 have:=Nat.mul_le_mul (show x≤4294967295 from by omega) (show y≤4294967295 from by omega)
 omega
theorem BM {zs:List Nat} {i v:Nat} (h:i<zs.length):(zs.set i v).drop i=v::zs.drop (i+1):=by
 rw [Be _ (by simpa using h),aA h]
 congr 1
 apply List.ext_getElem?
 intro q
 rw [List.getElem?_drop,List.getElem?_drop,List.getElem?_set_ne om]
theorem TE {xs zs:List Nat} {m b r:Nat} (hb:0<b) (hm:m<zs.length) (h:val (xs.drop (m+1))=b*val (zs.drop (m+1))+r):
  val (xs.drop m)=b*val ((zs.set m ((r*4294967296+xs.getD m 0)/b)).drop m)+(r*4294967296+xs.getD m 0)%b:=by
 rw [Ks,BM hm,val,h]
 generalize xs.getD m 0=x
 have e:=Nat.div_add_mod (r*4294967296+x) b
 generalize (r*4294967296+x)/b=q at*
 generalize (r*4294967296+x)%b=t at*
 have e2:b*(q+4294967296*val (zs.drop (m+1)))=b*q+4294967296*(b*val (zs.drop (m+1))):=by
  rw [Nat.mul_add,Nat.mul_left_comm]
 rw [e2]
 omega
end Go.PN
namespace Go.AI
theorem fA {P:Program} {f:FuncId} {fn:Func} {c:Code} {args:List AV} {r:AV} {X:ZX→Prop} (hf:P.funcs[f]?=some fn) (x:∀C,(∀b,¬C.bO b)→X C) (hb:fn.body=some c:=by rfl) (hn:(fn.name== "runtime.NumGoroutine")=false:=by rfl) (hl:args.length≤fn.ntmps:=by exact of_decide_eq_true (by kernel_rfl))
 (k:∀C,X6 (X C)→aw (Wn P fn C r) [.code c] (ZD 0 args) []:=by intro C x;simp only [ZD,Nat.reduceAdd];exact x.out):Fa P f args r:=OS hf hb hn hl fun C h=>k C ⟨x C h⟩
theorem fH {P:Program} {f:FuncId} {fn:Func} {c:Code} {hc:Qa} {args:List AV} {Q:AV→Qa→Prop} {X:ZX→Prop} (hf:P.funcs[f]?=some fn) (x:∀C:ZX,(∀b,C.bO b↔b∈hc.keys)→X C) (hb:fn.body=some c:=by rfl) (hn:(fn.name== "runtime.NumGoroutine")=false:=by rfl) (hl:args.length≤fn.ntmps:=by exact of_decide_eq_true (by kernel_rfl))
 (k:∀C,X6 (X C)→aw (V7 P fn C Q) [.code c] (ZD 0 args) hc:=by intro C x;simp only [ZD,Nat.reduceAdd];exact x.out):Fh P f hc args Q:=OU hf hb hn hl fun C h=>k C ⟨x C h⟩
theorem I9 (a:Nat):(BitVec.ofInt 64 (a:Int)).toNat=a%18446744073709551616:=by
 rw [BitVec.ofInt_natCast,BitVec.toNat_ofNat]
theorem CN (a b:Nat) (ha:a<18446744073709551616) (hb:b<18446744073709551616):oY .u64 (a:Int) (b:Int)=((a|||b:Nat):Int):=by
 have hx:a|||b<2^64:=Nat.or_lt_two_pow om om
 rw [CA]
 show IntKind.u64.wrap (((BitVec.ofInt 64 (a:Int))|||(BitVec.ofInt 64 (b:Int))).toNat:Int)=_
 rw [BitVec.toNat_or,I9,I9,Nat.mod_eq_of_lt ha,Nat.mod_eq_of_lt hb,IntKind.wrap_u64]
 omega
theorem LA (x y:Nat) (hy:y<4294967296):x*4294967296|||y=x*4294967296+y:=by
 have:=Nat.two_pow_add_eq_or_of_lt (i:=32) (b:=y) om x
 rw [Nc x,←this]
theorem FA (x y:Nat) (hx:x<4294967296) (hy:y<4294967296):oY .u64 ((x*4294967296:Nat):Int) (y:Int)=((x*4294967296+y:Nat):Int):=by
 rw [CN _ _ om om,LA x y hy]
def kS (x y:Nat):Nat:=x*4294967296+y
theorem O0 (x y:Nat) (hx:x<4294967296) (hy:y<4294967296):oY .u64 ((x*4294967296:Nat):Int) (y:Int)=((kS x y:Nat):Int):=FA x y hx hy
theorem U2 (x y:Nat) (hx:x<4294967296) (hy:y<4294967296):oY .u64 (y:Int) ((x*4294967296:Nat):Int)=((x*4294967296+y:Nat):Int):=by
 rw [CN _ _ om om,Nat.or_comm,LA x y hy]
theorem QtQ (a b:Nat) (ha:a<4294967296) (hb:b<4294967296):oY .u32 (a:Int) (b:Int)=((a|||b:Nat):Int):=by
 have hx:a|||b<2^32:=Nat.or_lt_two_pow om om
 rw [CA]
 show IntKind.u32.wrap (((BitVec.ofInt 32 (a:Int))|||(BitVec.ofInt 32 (b:Int))).toNat:Int)=_
 rw [BitVec.toNat_or,BitVec.ofInt_natCast,BitVec.ofInt_natCast,BitVec.toNat_ofNat,BitVec.toNat_ofNat,Nat.mod_eq_of_lt om,Nat.mod_eq_of_lt om,IntKind.wrap_u32]
 omega
theorem Vo (x:Nat) (hx:x<4294967296):sU .u64 (x:Int) 32=((x*4294967296:Nat):Int):=by
 rw [xJ]
 show IntKind.u64.wrap ((x:Int)*4294967296)=_
 rw [IntKind.wrap_u64];omega
theorem U3 (y:Nat):(y:Int)/4294967296=((y/4294967296:Nat):Int):=by omega
theorem Uu {n:Nat} (hn:n≤32):2^n≤4294967296:=Nat.pow_le_pow_right (n:=2) om hn
theorem LB (x n:Nat) (hx:x<4294967296) (hn:n≤32):sU .u64 (x:Int) (n:Int)=((x*2^n:Nat):Int):=by
 have h1:=Uu hn
 have h2:x*2^n≤4294967295*4294967296:=Nat.mul_le_mul om h1
 rw [xJ]
 show IntKind.u64.wrap ((x:Int)*2^(min (n:Int).toNat 64))=_
 rw [Int.toNat_natCast,Nat.min_eq_left om,IntKind.wrap_u64]
 have e:(x:Int)*2^n=((x*2^n:Nat):Int):=by simp
 rw [e]
 omega
theorem LC (x n:Nat) (hn:n≤64):ly .u64 (x:Int) (n:Int)=((x/2^n:Nat):Int):=by
 rw [JA]
 show(x:Int).fdiv (2^(min (n:Int).toNat 64))=_
 rw [Int.toNat_natCast,Nat.min_eq_left hn]
 have e:(2:Int)^n=((2^n:Nat):Int):=by simp
 rw [e,Int.fdiv_eq_ediv_of_nonneg _ (Int.natCast_nonneg _)]
 rfl
theorem Ca (a b:Nat) (ha:a<18446744073709551616):qO .u64 (a:Int) (b:Int)=((a/b:Nat):Int):=by
 rw [xE]
 show IntKind.u64.wrap ((a:Int).tdiv b)=_
 have h:=Nat.div_le_self a b
 have e:(a:Int).tdiv (b:Int)=((a/b:Nat):Int):=rfl
 rw [e,IntKind.wrap_u64]
 generalize a/b=q at*
 omega
theorem Cb (a b:Nat):yY (a:Int) (b:Int)=((a%b:Nat):Int):=by rw [LR];exact Int.ofNat_tmod a b
end Go.AI
namespace Go.Proofs.YtjegkdadeghpjaaGreatDoor
open Go.AI Go.PN Tryz
attribute [local irreducible] aw Fa VA Vk Fh YO
theorem Kl (xs:List Nat) (i:Nat) (hx:∀x∈xs,x<4294967296):Fa prog 385 [.c (ws false xs),.c (.int .i64 i)] (.c (.int .u64 (xs.getD i 0:Nat))):=by
 refine OS func385 rfl rfl (by simp [ntmps385]) fun C hC=> ?_
 have hb:=QI hx i
 simp only [ZD,Nat.reduceAdd]
 refine xG ?_
 refine QQ eE (fun hb=> ?_) (fun hb=> ?_)
 ·simp only [Dq] at hb
  refine eS hC ?_
  exact .one (.c (Qn rfl))
 ·simp only [decide_eq_false_iff_not] at hb
  refine eS hC ?_
  refine .one (.c (Qn ?_))
  rw [ZR om];rfl
theorem Zx (xs:List Nat) (hx:∀x∈xs,x<4294967296) (hl:xs.length≤1099511627776):Fa prog 175 [.c (ws false xs)] (.c (ws true (Qc (val xs)))):=by
 refine fA func175 fun C hC=>?_
 refine xG ?_
 refine Qh (fun m:Nat=>[(0,.c (ws false xs)),(3,.c (.int .i64 m))]) (fun _=>[]) (fun m=>m≤xs.length∧(∀j,m≤j→xs.getD j 0=0)) id xs.length eB zZ ⟨Ac _,fun j hj=>ZR hj⟩ ?_
 rintro m ⟨hm,hz⟩
 have jE:(m=0∨xs.getD (m-1) 0≠0)→Qc (val xs)=xs.take m:=wV xs m hx hm hz
 by_cases h0:0<m
 ·have hd:decide ((m:Int)>0)=true:=by simp;omega
  apply X5
  apply X5
  refine NF true (by simp only [go_sem,Nat.reduceEqDiff,reduceIte,hd]<;>rfl) (by(try simp only [XM])<;>and_intros<;>first|exact True.intro|omega|trivial) rfl ?_
  have e1:((m:Int)-1).toNat=m-1:=by omega
  refine QQ eE (fun hb=> ?_) (fun hb=> ?_)
  ·have cm:xs.getD (m-1) 0=0:=by simpa using hb
   refine xG ?_
   refine Qb ⟨m-1,by simp only [id];omega,eB,zZ,by omega,fun j hj=> ?_⟩
   by_cases pT:j=m-1
   ·rw [pT];exact cm
   ·exact hz j om
  ·have cm:xs.getD (m-1) 0≠0:=by simpa using hb
   have ie:((m:Int)==0)=false:=by simp;omega
   refine xG ?_
   refine QQ eE (fun hb=> ?_) (fun hb=> ?_)
   ·rw [ie] at hb;cases hb
   ·refine xG ?_
    refine Qw (xs:=[]) (cells:=[]) rfl rfl rfl Xp (by rw [l9,Xf];rfl) rfl om om (by simp) rfl fun g hg=> ?_
    simp only [go_sem,Nat.reduceEqDiff,reduceIte]
    refine xG ?_
    refine YA rfl rfl rfl Xp Xf rfl om eE eE om eE .row (fun _ _=>rfl) h0 qc om eE fun g' ch=> ?_
    simp only [go_sem,Nat.reduceEqDiff,reduceIte]
    refine eS hC ?_
    refine .one (.c ?_)
    rw [jE (.inr cm)]
    refine VC eE om (by simp;omega) (fun j hj=> ?_)
    simp only [Xs,Nat.not_lt_zero,if_false,Nat.sub_zero,Nz]
    rw [Us hj]
 ·have ie:m=0:=by omega
  subst ie
  have hd:decide (((0:Nat):Int)>0)=false:=by simp
  apply X5
  apply X5
  refine NF true (by simp only [go_sem,Nat.reduceEqDiff,reduceIte,hd]<;>rfl) (by(try simp only [XM])<;>and_intros<;>first|exact True.intro|omega|trivial) rfl ?_
  refine QQ eE (fun hb=> ?_) (fun _=> ?_)
  ·cases hb
  refine xG ?_
  refine QQ eE (fun _=> ?_) (fun hb=> ?_)
  ·refine eS hC ?_
   refine .one (.c ?_)
   rw [jE (.inl rfl)]
   exact .ab
  ·cases hb
theorem QtR (xs ys:List Nat) (hx:∀x∈xs,x<4294967296) (hy:∀x∈ys,x<4294967296) (dp:xs.length≤68719476736) (dU:ys.length≤68719476736):
  Fa prog 390 [.c (ws false xs),.c (ws false ys)] (.c (ws true (Qc (val xs+val ys)))):=by
 refine fA func390 fun C hC=>?_
 refine xG ?_
 have dH:(if(ys.length:Int)>xs.length then(ys.length:Int) else xs.length)+1=((max xs.length ys.length+1:Nat):Int):=by split<;>omega
 rw [dH]
 generalize hn:max xs.length ys.length+1=n
 refine KP (n:=n) (c:=n) rfl rfl rfl Xp Xf rfl om eE eE rfl rfl om om om fun g hg=> ?_
 rw [JC n]
 refine ZA ?_
 refine Qh (fun x:Nat×Nat×List Nat=>[(0,.c (ws false xs)),(1,.c (ws false ys)),(5,.c (.aO g 1 0 n)),(6,.c (.int .u64 x.2.1)),(16,.c (.int .i64 n)),(17,.c (.int .i64 x.1))]) (fun x=>[(g,.cells 180 n (wf x.2.2))])
  (fun x=>x.1≤n∧x.2.1≤1∧x.2.2.length=n∧(∀y∈x.2.2,y<4294967296)∧val (x.2.2.take x.1)+4294967296^x.1*x.2.1=val (xs.take x.1)+val (ys.take x.1)) (fun x=>n-x.1) (0,0,List.replicate n 0) eB zZ
  ⟨Lz _,Lz _,by simp,YG n,by simp [val]⟩ ?_
 rintro ⟨i,c,zs⟩ ⟨hi,hc,aY,hz,hv⟩
 dsimp only at hi hc aY hz hv⊢
 refine xG ?_
 refine QQ eE (fun hb=> ?_) (fun hb=> ?_)
 ·have bV:i<n:=by simpa using hb
  have dL:=QI hx i
  have lU:=QI hy i
  refine xG ?_
  refine Qr (Kl xs i hx) rfl rfl rfl eL ?_
  refine ZA ?_
  refine Qr (Kl ys i hy) rfl rfl rfl eL ?_
  refine ZA ?_
  have ew:Xz .u32 ((c:Int)+(((xs.getD i 0:Nat):Int)+((ys.getD i 0:Nat):Int)))=(((c+(xs.getD i 0+ys.getD i 0))%4294967296:Nat):Int):=by rw [QM,IntKind.wrap_u32];omega
  rw [ew]
  refine xW ?_
  refine xS ?_
  rw [ZO om]
  refine xG ?_
  refine Qb ⟨(i+1,(c+(xs.getD i 0+ys.getD i 0))/4294967296,zs.set i ((c+(xs.getD i 0+ys.getD i 0))%4294967296)),by simp only;omega,eB,zZ,by simp only;omega,by simp only;omega,by simpa using aY,KD hz om,BL om hv⟩
 ·have bV:i=n:=by have:¬((i:Int)<n):=by simpa using hb
                  omega
  subst bV
  refine xG ?_
  refine Qr (Zx zs hz om) rfl rfl rfl (by refine xS ?_;exact .c (Yi eE om om (fun j _=>by rw [Nz];rfl))) ?_
  refine JW hC ?_
  rw [I7 hx hy om (by rw [aY];exact hv)]
  exact .one (.c QZ)
end Go.Proofs.YtjegkdadeghpjaaGreatDoor
