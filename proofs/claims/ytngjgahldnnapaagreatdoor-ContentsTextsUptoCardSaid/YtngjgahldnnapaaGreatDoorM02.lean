/- Parts of one proof, laid by a program. -/
import Derived.Test.YtngjgahldnnapaaGreatDoorM00
import Derived.Test.YtngjgahldnnapaaGreatDoorM01
import Derived.Laws.StructEq
import Derived.Test.YtngjgahldnnapaaGreatDoorProg
import Derived.KernelRfl
set_option linter.unusedSimpArgs false
set_option linter.unusedVariables false
set_option maxRecDepth 100000
set_option maxHeartbeats 12800000
namespace Go.AI
section
attribute [go_sem] wide Bool.false_eq_true QvJ UV Qx QaW ev Sl.get Sl.set Sl.setO cst U7 We binI binInt binSh Qhf Qhg Qhh Qbm Yk Qbn Qbl YN nilAV Qge Qa.get Qa.set Qa.del
attribute [go_sem] Option.map_some Option.map_none Option.bind_some List.getElem?_cons_zero List.getElem?_cons_succ Ad Nat.add_zero Nz Nat.sub_zero Nat.zero_mul Int.toNat_natCast
@[go_sem] theorem QxD (t p q:Bool):QaU t (.c (.bool p)) (.c (.bool q))=.c (.bool (bif t then p else q)):=rfl
@[go_sem] theorem QxE (x y:AV):QaU true x y=x:=by rw [Qck];rfl
@[go_sem] theorem Qwf (x y:AV):QaU false x y=y:=by rw [Qck];rfl
abbrev ws (t:Bool) (xs:List Nat):CV:=.row t 1 xs.length fun j=>.int .u32 (xs.getD j 0:Nat)
def wf (zs:List Nat) (j:Nat):CV:=.int .u32 (zs.getD j 0:Nat)
@[go_sem] theorem QvL (zs:List Nat) (j:Nat):wf zs j=.int .u32 (zs.getD j 0:Nat):=rfl
theorem Vd {zs:List Nat} {i v:Nat} (hi:i<zs.length):VL (wf zs) i [.int .u32 (v:Int)]=wf (zs.set i v):=by
 funext j
 simp only [VL]
 by_cases e:j=i
 ·subst e;simp [hi,wf]
 ·rw [iN e]
  show CV.int .u32 (zs.getD j 0:Nat)=CV.int .u32 ((zs.set i v).getD j 0:Nat)
  rw [Lg,Lg,List.getElem?_set_ne (fun h=>e h.symm)]
theorem UD (n:Nat):(fun j=>ofL [.int .u32 0] (j%1))=wf (List.replicate n 0):=by
 funext j
 show ofL [CV.int .u32 0] (j%1)=CV.int .u32 ((List.replicate n 0).getD j 0:Nat)
 rw [Nat.mod_one,Lg,List.getElem?_replicate]
 split<;>rfl
theorem QkR (a:Int):Qcl .u64 a 32=a/4294967296:=by
 rw [UB]
 show a.fdiv 4294967296=_
 rw [Int.fdiv_eq_ediv_of_nonneg _ om]
theorem QkS (a:Int):Qcl .i64 a 32=a/4294967296:=by
 rw [UB]
 show a.fdiv 4294967296=_
 rw [Int.fdiv_eq_ediv_of_nonneg _ om]
theorem QkT (a:Int):Qcl .u64 a 63=a/9223372036854775808:=by
 rw [UB]
 show a.fdiv 9223372036854775808=_
 rw [Int.fdiv_eq_ediv_of_nonneg _ om]
theorem Qct (D:Nat):Qcl .u64 (D:Int) 63=((D/9223372036854775808:Nat):Int):=by rw [QkT];omega
attribute [go_sem] QkS QkR Us Ld List.map_nil AV.cells Option.getD_some Option.getD_none
@[go_sem] theorem QkU:∀(cs:List CV) (k:Nat),ofL cs k=(cs[k]?).getD .any
  |[],_=>rfl
  |_::_,0=>rfl
  |_::cs,k+1=>by rw [List.getElem?_cons_succ];exact QkU cs k
@[go_sem] theorem Qs9 (a b:Nat):((a:Int)+(b:Int)).toNat=a+b:=by omega
@[go_sem] theorem Qta (a:Nat):((a:Int)+1).toNat=a+1:=by omega
@[go_sem] theorem Qtb (a:Nat):((a:Int)-1).toNat=a-1:=by omega
theorem Wh {k:IntKind} {a b:Int} (e:a=b):AV.c (.int k a)=.c (.int k b):=by rw [e]
attribute [go_sem] Sl.sub cond_true cond_false
theorem QxS {h:Qa} {t t':Bool} {xs:List Nat} (ht:t'=true→t=true):LeC h (ws t xs) (ws t' xs):=.row ht fun _ _=>.refl _
theorem Xc {h:Qa} {t:Bool} {xs:List Nat}:Ut h (ws true xs) (ws t xs):=.row fun _ _=>.int _ _
theorem VW {h:Qa} {t:Bool} {g off n m:Nat} {ty:TypeId} {f:Nat→CV} {ys:List Nat} (hg:h.get g=some (.cells ty m f)) (hm:off+n≤m) (hn:n=ys.length) (hf:∀j,j<n→f (off+j)=.int .u32 (ys.getD j 0:Nat)):Ut h (.osl g 1 off n) (ws t ys):=by
 subst hn
 exact .osl hg om (fun j hj=>by rw [hf j om];exact .int _ _)
theorem Yt {h:Qa} {g off n m:Nat} {ty:TypeId} {f:Nat→CV} {ys:List Nat} (hg:h.get g=some (.cells ty m f)) (hm:off+n≤m) (hn:n=ys.length) (hf:∀j,j<n→f (off+j)=.int .u32 (ys.getD j 0:Nat)):LeC h (.osl g 1 off n) (ws false ys):=by
 subst hn
 exact .osl hg om (fun j hj=>by rw [hf j om];exact .refl _)
theorem Qo {h:Qa} {k:IntKind} {a b:Int} (e:a=b):Ut h (.int k a) (.int k b):=by subst e;exact .int _ _
theorem Qp {h:Qa} {a b:Bool} (e:a=b):Ut h (.bool a) (.bool b):=by subst e;exact .bool _
@[go_sem] theorem Qdw (P:Program) (fn:Func) (C:Vk) (r:AV):(On P fn C r).P=P:=rfl
@[go_sem] theorem Qze (P:Program) (σ:Sl) (h:Qa) (t:Nat):Vm P σ h [.tmp t]=some (σ.get t):=rfl
attribute [go_sem] Vm Qcm List.mapM_cons List.mapM_nil
theorem QO (n:Nat):XE .u32 (n:Int)=((n%4294967296:Nat):Int):=by rw [QN,IntKind.wrap_u32];omega
theorem wrap_u64 {x:Int} (h0:0≤x) (h1:x≤18446744073709551615):IntKind.u64.wrap x=x:=XV ⟨h0,h1⟩
theorem wrap_u32 {x:Int} (h0:0≤x) (h1:x≤4294967295):IntKind.u32.wrap x=x:=XV ⟨h0,h1⟩
theorem wrap_i64 {x:Int} (h0: -9223372036854775808≤x) (h1:x≤9223372036854775807):IntKind.i64.wrap x=x:=XV ⟨h0,h1⟩
attribute [go_sem] Nat.reduceEqDiff reduceIte Nat.reduceAdd Nat.reduceSub Nat.reduceMul Nat.reduceLeDiff Nat.reduceLT Int.reduceToNat Lc Lu Bool.not_true Bool.not_false
section
variable {E : Vl} {K : List It} {σ : Sl} {h : Qa} {all l rest : List Oper} {o : Oper}
theorem wa1 {x y:Code} (k:aw E (.code x::.code y::K) σ h):aw E (.code (.seq x y)::K) σ h:=Yd k
theorem wa2 {id:Nat} {c:Code} (k:aw E (.code c::.blk id::K) σ h):aw E (.code (.block id c)::K) σ h:=Zz k
theorem wa3 (k:aw E K σ h):aw E (.code .skip::K) σ h:=QdI k
theorem wa4 {id:Nat} (k:aw E K σ h):aw E (.blk id::K) σ h:=Qv9 k
theorem wa5 {id:Nat} {K':List It} (hk:Qd8 id K=some K') (k:aw E K' σ h):aw E (.code (.exit id)::K) σ h:=Qte hk k
theorem wa6 {id:Nat} (k:aw E (.ops l l::K) σ h):aw E (.code (.region id l.toArray false)::K) σ h:=Zd k
theorem wa7 (k:aw E K σ h):aw E (.ops l []::K) σ h:=XA k
theorem wa8 (k:aw E (.ops l rest::K) σ h):YE E h l K 0 rest σ:=Qtl k
theorem wl2 {t:Bool} {s n:Nat} {f:Nat→CV}:LeC h (.row true s n f) (.row t s n f):=.row (fun _=>rfl) fun _ _=>.refl _
theorem ZC {h:Qa}:∀xs:List CV,LeL h xs xs
 |[]=>trivial
 |x::xs=>⟨.refl x,ZC xs⟩
end
end
section
def Qmo (C:Vk) (Q:AV→Qa→Prop):Ending→World→Prop:=fun e w'=>∃v r h',e=.returned v∧Q r h'∧h'.keys.Nodup∧(∀g∈h'.keys,C.own0 g∨C.w0.heap.size≤g)∧
 VK (QH C h' w') w' r v∧(∀g o,(g,o)∈h'→Y0 (QH C h' w') w' g o)∧Fr C.own0 C.w0 w'
def Fh (P:Program) (f:FuncId) (hc:Qa) (args:List AV) (Q:AV→Qa→Prop):Prop:=
 JR P f∧∀(C:Vk) (vs:List Value),(∀b,C.own0 b↔b∈hc.keys)→hc.keys.Nodup→(∀g o,(g,o)∈hc→Y0 C.S0 C.w0 g o)→Vc C.S0 C.w0 args vs→Calls P f vs.toArray C.w0 (Qmo C Q)
def Ky (P:Program) (fn:Func) (C:Vk) (Q:AV→Qa→Prop):Vl:={P,N:=fn.ntmps,C,Q:=bodyPost P fn (Qmo C Q)}
@[go_sem] theorem Xaw (P:Program) (fn:Func) (C:Vk) (Q:AV→Qa→Prop):(Ky P fn C Q).P=P:=rfl
@[go_sem] theorem Xax (P:Program) (fn:Func) (C:Vk) (Q:AV→Qa→Prop):(Ky P fn C Q).C=C:=rfl
@[go_sem] theorem XaF (P:Program) (fn:Func) (C:Vk) (r:AV):(On P fn C r).C=C:=rfl
theorem Qen {h h':Qa} (hp:h.Perm h') (g:Nat):g∈h.keys↔g∈h'.keys:=(hp.map (·.1)).mem_iff
theorem Qcu {h h':Qa} (hp:h.Perm h') (hn:h.keys.Nodup):h'.keys.Nodup:=((hp.map (fun p:Nat×XD=>p.1)).nodup_iff).1 hn
section
variable {E : Vl} {K : List It} {σ σ' : Sl} {h : Qa} {all rest : List Oper} {o : Oper}
theorem QiA {P:Program} {fn:Func} {C:Vk} {Q:AV→Qa→Prop} {x:AV} {a:Act} {w:World} (s:St fn.ntmps C σ h a w) {rvs:List ResultVar} (hrs:fn.results=rvs.toArray) (hx:Vm P σ h rvs=some x)
  (hfl:∀xs,x=.tup xs→xs.all AV.flat=true) (hq:Q x h):a.defers=[]∧∃v,(results fn a.tmps).run P w=.ok v w∧Qmo C Q (.returned v) w:=by
 obtain⟨v,hv,hr⟩:=ON s hrs hx hfl
 exact⟨s.defers,v,hv,v,x,h,rfl,hq,s.nodup,s.keys,hr,s.heap,s.frame⟩
theorem Qtm {P:Program} {fn:Func} {C:Vk} {Q:AV→Qa→Prop} {x:AV} {rvs:List ResultVar} (hrs:fn.results=rvs.toArray) (hx:Vm P σ h rvs=some x) (hfl:∀xs,x=.tup xs→xs.all AV.flat=true)
 (hq:Q x h):aw (Ky P fn C Q) (.code .ret::K) σ h:=fun a w s=>wp_ret (WT a w (QiA s hrs hx hfl hq))
theorem Qtn {P:Program} {fn:Func} {C:Vk} {Q:AV→Qa→Prop} {x:AV} {rvs:List ResultVar} (hrs:fn.results=rvs.toArray) (hx:Vm P σ h rvs=some x) (hfl:∀xs,x=.tup xs→xs.all AV.flat=true)
 (hq:Q x h):aw (Ky P fn C Q) [] σ h:=fun a w s=>QiA s hrs hx hfl hq
theorem QiB {P:Program} {fn:Func} {C:Vk} {Q:AV→Qa→Prop} {rvs:List ResultVar} (hrs:fn.results=rvs.toArray) (k:∀R:Option AV→Prop,(∀x,Qeh x=true→Q x h→R (some x))→R (Vm P σ h rvs)):
  aw (Ky P fn C Q) (.code .ret::K) σ h:=by
 have:=k (fun y=>y=Vm P σ h rvs→aw (Ky P fn C Q) (.code .ret::K) σ h) (fun x hf hq e=>Qtm hrs e.symm (JS hf) hq)
 exact this rfl
theorem QiC {P:Program} {fn:Func} {C:Vk} {Q:AV→Qa→Prop} {rvs:List ResultVar} (hrs:fn.results=rvs.toArray) (k:∀R:Option AV→Prop,(∀x,Qeh x=true→Q x h→R (some x))→R (Vm P σ h rvs)):
  aw (Ky P fn C Q) [] σ h:=by
 have:=k (fun y=>y=Vm P σ h rvs→aw (Ky P fn C Q) [] σ h) (fun x hf hq e=>Qtn hrs e.symm (JS hf) hq)
 exact this rfl
theorem QaX {P:Program} {f:FuncId} {fn:Func} {c:Code} {hc:Qa} {args:List AV} {Q:AV→Qa→Prop} (hf:P.funcs[f]?=some fn) (hb:fn.body=some c) (hn:(fn.name== "runtime.NumGoroutine")=false) (hl:args.length≤fn.ntmps)
  (k:∀C:Vk,(∀b,C.own0 b↔b∈hc.keys)→aw (Ky P fn C Q) [.code c] (Y8 0 args) hc):Fh P f hc args Q:=by
 refine⟨⟨fn,hf,by rw [hb];rfl,hn⟩,fun C vs hC hnd ho hr=> ?_⟩
 refine calls_of_wp hf hb (R:=Qmo C Q) ?_
 have hk:=k C hC
 have kp:YA C.S0 (QH C hc C.w0) C.w0 C.w0:=⟨fun t b hb=>⟨.inl hb,C.lt t b hb,fun hm=>C.apart t b hb ((hC b).2 hm)⟩,fun _ _ _=>rfl,fun _ _ x=>x⟩
 have hlen:=hr.len
 refine hk _ _ ⟨?_,rfl,fun t=> ?_,fun g o hm=>Y0.keep kp rfl (ho g o hm),hnd,fun g hg=>.inl ((hC g).2 hg),Fr.refl _ _⟩
 ·show(vs.toArray++Array.replicate (fn.ntmps-vs.toArray.size) undef).size=fn.ntmps
  simp;omega
 ·rw [Qcn]
  simp only [Lz,if_true,Nat.sub_zero]
  refine VK.keep kp ?_
  have h1:=Vc.getD args vs hr t
  have h2:(vs.toArray++Array.replicate (fn.ntmps-vs.toArray.size) undef).getD t undef=vs.getD t undef:=by
   rw [Array.getD_eq_getD_getElem?,Lg]
   by_cases ht:t<vs.length
   ·rw [Array.getElem?_append_left (by simpa using ht)];simp
   ·rw [Array.getElem?_append_right (by simpa using ht)]
    rw [List.getElem?_eq_none om]
    simp [Array.getElem?_replicate]
    split<;>rfl
  rw [h2]
  exact h1
theorem LeC.rep0 {S:Bool→Nat→Prop} {w:World} (hm:∀b,S true b→S false b) {x y:CV} {v:Value} (le:LeC [] x y) (hr:XX S w x v):XX S w y v:=
 (le.rep hm (fun g o hg=>by simp at hg) hr).keep ⟨fun t b hb=>hb.elim id (fun x=>by simp [Qa.keys] at x),fun _ _ _=>rfl,fun _ _ x=>x⟩
theorem Le0.rep0 {S:Bool→Nat→Prop} {w:World} (hm:∀b,S true b→S false b) {x y:AV} {v:Value} (le:Le0 [] x y) (hr:VK S w x v):OH S w y v:=
 (le.rep hm (fun g o hg=>by simp at hg) hr).keep ⟨fun t b hb=>hb.elim id (fun x=>by simp [Qa.keys] at x),fun _ _ _=>rfl,fun _ _ x=>x⟩
theorem Us.rep0 {N:Nat} {C:Vk} {a:Act} {w:World} (s:St N C σ h a w):∀{xs:List Operand} {ys:List AV},Us [] (xs.map (ev σ)) ys→Vc (QH C h w) w ys (xs.map a.eval)
 |[],[],_=>trivial
 |x::xs,y::ys,le=>⟨le.1.rep0 QH.mono' (QK s x),Us.rep0 s le.2⟩
 |[],_::_,le=>le.elim
 |_::_,[],le=>le.elim
theorem Fh.use {P:Program} {N:Nat} {C:Vk} {a:Act} {w:World} {f:FuncId} {vs:List Value} {args:List AV} {hc hr:Qa} {Q:AV→Qa→Prop} (hf:Fh P f hc args Q) (s:St N C σ h a w) (hp:h.Perm (hc++hr)) (le:Vc (QH C h w) w args vs):
  Calls P f vs.toArray w fun e w'=>∃v r h',e=.returned v∧Q r h'∧(∀g∈h'.keys,g∉hr.keys)∧St N C σ (h'++hr) a w'∧VK (QH C (h'++hr) w') w' r v:=by
 have hkk:∀g,g∈h.keys↔g∈hc.keys∨g∈hr.keys:=fun g=>by
  rw [Qen hp];simp [Qa.keys,List.mem_append,or_and_right,exists_or]
 have hnd:(hc.keys++hr.keys).Nodup:=by
  have:(hc++hr).keys.Nodup:=Qcu hp s.nodup
  simpa [Qa.keys] using this
 have hdisj:∀g,g∈hc.keys→g∉hr.keys:=fun g h1 h2=>(List.nodup_append.1 hnd).2.2 g h1 g h2 rfl
 let C':Vk:={w0:=w,S0:=QH C h w,own0:=fun b=>b∈hc.keys,mono:=QH.mono',apart:=fun t b hb hm=>hb.2.2 ((hkk b).2 (.inl hm)),lt:=fun t b hb=>hb.2.1}
 refine(hf.2 C' vs (fun b=>Iff.rfl) (List.nodup_append.1 hnd).1 (fun g o hm=>s.heap g o (hp.mem_iff.2 (List.mem_append_left _ hm))) le).mono ?_
 rintro e w' ⟨v,r,h',he,hq,hnd',hk',hrep,ho,hfr⟩
 have hfresh:∀g∈h'.keys,g∉hr.keys:=fun g hg hm=>by
  rcases hk' g hg with h1|h1
  ·exact hdisj g h1 hm
  ·have:=s.klt ((hkk g).2 (.inr hm));have h2:w.heap.size≤g:=h1;omega
 have hka:∀g,g∈(h'++hr).keys↔g∈h'.keys∨g∈hr.keys:=fun g=>by simp [Qa.keys,List.mem_append,or_and_right,exists_or]
 have kp1:YA (QH C' h' w') (QH C (h'++hr) w') w' w':=by
  refine⟨fun t b hb=> ?_,fun _ _ _=>rfl,fun _ _ x=>x⟩
  obtain⟨h1,h2,h3⟩:=hb
  rcases h1 with h1|h1
  ·have h1':QH C h w t b:=h1
   refine⟨h1'.1,h2,fun hm=> ?_⟩
   rcases(hka b).1 hm with hm|hm
   ·exact h3 hm
   ·exact h1'.2.2 ((hkk b).2 (.inr hm))
  ·have h1':w.heap.size≤b:=h1
   refine⟨.inr (Lt s.frame.size h1'),h2,fun hm=> ?_⟩
   rcases(hka b).1 hm with hm|hm
   ·exact h3 hm
   ·have:=s.klt ((hkk b).2 (.inr hm));omega
 have kp2:YA (QH C h w) (QH C (h'++hr) w') w w':=by
  refine⟨fun t b hb=>⟨hb.1,Ae hb.2.1 hfr.size,fun hm=> ?_⟩,fun t b hb=>hfr.block b hb.2.1 (fun hm=>hb.2.2 ((hkk b).2 (.inl hm))),hfr.has⟩
  rcases(hka b).1 hm with hm|hm
  ·rcases hk' b hm with h1|h1
   ·exact hb.2.2 ((hkk b).2 (.inl h1))
   ·have h2:w.heap.size≤b:=h1;have:=hb.2.1;omega
  ·exact hb.2.2 ((hkk b).2 (.inr hm))
 refine⟨v,r,h',he,hq,hfresh,⟨s.size,s.defers,fun t=>VK.keep kp2 (s.slots t),fun g ob hm=> ?_,?_,fun g hg=> ?_,?_⟩,VK.keep kp1 hrep⟩
 ·rcases List.mem_append.1 hm with hm|hm
  ·exact Y0.keep kp1 rfl (ho g ob hm)
  ·have h1:=s.heap g ob (hp.mem_iff.2 (List.mem_append_right _ hm))
   exact Y0.keep kp2 (hfr.block g h1.lt (fun h2=>hdisj g h2 (List.mem_map.2 ⟨_,hm,rfl⟩))) h1
 ·show(List.map (·.1) (h'++hr)).Nodup
  rw [List.map_append]
  refine List.nodup_append.2 ⟨hnd',(List.nodup_append.1 hnd).2.1,fun x hx y hy e=> ?_⟩
  subst e
  exact hfresh x hx hy
 ·rcases(hka g).1 hg with hg|hg
  ·rcases hk' g hg with h1|h1
   ·exact s.keys g ((hkk g).2 (.inl h1))
   ·exact .inr (Lt s.frame.size h1)
  ·exact s.keys g ((hkk g).2 (.inr hg))
 ·refine s.frame.trans hfr (fun x hx hlt=> ?_)
  exact(s.keys x ((hkk x).2 (.inl hx))).resolve_right om
theorem Ql {f:FuncId} {xs:List Operand} {ts:Array TypeId} {hc hr:Qa} {args:List AV} {Q:AV→Qa→Prop} (hf:Fh E.P f hc args Q) (hop:o.op=.call {callee:=.value (.func f),args:=xs.toArray,argTypes:=ts}) (hw:Qx all σ o=some true) (hd:Qw E.N o.dst=true)
  (hp:h.Perm (hc++hr)) (le:Us [] (xs.map (ev σ)) args) (k:∀r h',Q r h'→(∀g∈h'.keys,g∉hr.keys)→aw E (.ops all rest::K) (σ.setO o.dst r) (h'++hr)):aw E (.ops all (o::rest)::K) σ h:=fun a w s=>by
 show wpList _ _ _ _ _ _
 unfold wpList
 rw [iP (s.wanted hw)]
 refine .inl ?_
 unfold Oper.wp
 have hrun:(execOp a.eval o).run E.P w=.ok (.enter f (xs.map a.eval).toArray) w:=by
  simp only [execOp,hop,resolve,Act.eval,Deferred.ofValue,invoke,Sem.run_bind]
  have:=hf.1.run (#[]++(Array.map a.eval xs.toArray)++ #[]) w
  simp only [Sem.run_pure,Result.andThen_ok]
  rw [show((xs.map a.eval).toArray)=(#[]++(Array.map a.eval xs.toArray)++ #[]) from by simp]
  exact this
 rw [hrun]
 show Calls _ _ _ _ _
 refine(hf.use s hp (Us.rep0 s le)).mono ?_
 rintro e w' ⟨v,r,h',rfl,hq,hfr,s',hrep⟩
 exact k r h' hq hfr _ _ (s'.put hd hrep)
theorem Qi {h':Qa} (hp:h.Perm h') (k:aw E K σ h'):aw E K σ h:=fun a w s=>by
 have hkk:∀b,b∈h.keys↔b∈h'.keys:=Qen hp
 have kp:YA (QH E.C h w) (QH E.C h' w) w w:=⟨fun t b hb=>⟨hb.1,hb.2.1,fun hm=>hb.2.2 ((hkk b).2 hm)⟩,fun _ _ _=>rfl,fun _ _ e=>e⟩
 exact k a w ⟨s.size,s.defers,fun t=>VK.keep kp (s.slots t),fun g o hm=>Y0.keep kp rfl (s.heap g o (hp.mem_iff.2 hm)),Qcu hp s.nodup,fun g hg=>s.keys g ((hkk g).2 hg),s.frame⟩
theorem Qqk {t g s off n m:Nat} {ty:TypeId} {f:Nat→CV} {σ':Sl} {h':Qa} (ht:σ.get t=.c (.osl g s off n)) (hg:h.get g=some (.cells ty m f)) (hm:off+n*s≤m) (hn:¬E.C.own0 g) (hσ:σ.set t (.c (.row true s n fun j=>f (off+j)))=σ') (hh:h.del g=h')
  (k:aw E K σ' h'):aw E K σ h:=fun a w st=>by
 subst hσ hh
 refine k a w ?_
 have hgm:(g,_)∈h:=Qa.get_mem hg
 have hkg:g∈h.keys:=List.mem_map.2 ⟨_,hgm,rfl⟩
 have hsub:=Qa.del_sub h g
 have hks:∀b,b∈(h.del g).keys→b∈h.keys:=fun b hb=>by
  obtain⟨p,hp,e⟩:=List.mem_map.1 hb
  exact List.mem_map.2 ⟨p,hsub.subset hp,e⟩
 have kp:YA (QH E.C h w) (QH E.C (h.del g) w) w w:=⟨fun t b hb=>⟨hb.1,hb.2.1,fun hm=>hb.2.2 (hks b hm)⟩,fun _ _ _=>rfl,fun _ _ e=>e⟩
 refine⟨st.size,st.defers,fun t'=> ?_,fun g' o' hm'=>Y0.keep kp rfl (st.heap g' o' (hsub.subset hm')),(hsub.map _).nodup st.nodup,fun g' hg'=>st.keys g' (hks g' hg'),st.frame⟩
 rw [Sl.get_set]
 by_cases e:t=t'
 ·subst e
  rw [iP rfl]
  have h1:=st.slots t
  rw [ht] at h1
  obtain⟨c,hv,hc,_,_⟩:=h1
  obtain⟨cs,hb,hcs,hj⟩:=st.heap g _ hgm
  refine⟨some ⟨g,off,none⟩,c,hv,hc,fun _=>⟨⟨g,off,none⟩,rfl,⟨.inr ((st.keys g hkg).resolve_left hn),st.klt hkg,Qa.del_not h g st.nodup⟩,fun j hjl=> ?_⟩⟩
  obtain⟨u,hu,hr⟩:=hj (off+j) om
  exact⟨u,by rw [ZP,Zf hb];exact hu,hr.keep kp⟩
 ·rw [iN e]
  exact VK.keep kp (st.slots t')
end
end
section
attribute [go_sem] Lq Ln Lp
section
variable {E : Vl} {K : List It} {σ σ' : Sl} {h : Qa} {all rest : List Oper} {o : Oper}
theorem Yy {α:Type} {c:Code} (S:α→Sl) (H:α→Qa) (F:α→Prop) (k1:aw E (.code c::.stop (fun σ' h'=>∃x,Sl.sub (S x) σ'∧(H x).Sublist h'∧F x)::K) σ h) (k2:∀x,F x→aw E K (S x) (H x)):aw E (.code c::K) σ h:=fun a w s=>by
 have:=k1 a w s
 refine wp_mono this ?_
 intro e a' w' hq
 cases e with
 |normal=>
  obtain⟨σ2,h2,⟨x,r1,r2,r3⟩,s2⟩:=hq
  exact k2 x r3 a' w' (s2.weak (Sl.sub_le r1) r2)
 |exit id=>exact hq
 |goto l=>exact hq
 |ret=>exact hq
 |panic c=>exact hq
 |outgrown=>exact hq
theorem Zs {t:Nat} {v:AV} (hc:∀S w u,VK S w (σ.get t) u→VK S w v u) (hσ:σ.set t v=σ') (k:aw E K σ' h):aw E K σ h:=fun a w s=>by
 subst hσ
 refine k a w ⟨s.size,s.defers,fun t'=> ?_,s.heap,s.nodup,s.keys,s.frame⟩
 rw [Sl.get_set]
 by_cases e:t=t'
 ·subst e;rw [iP rfl];exact hc _ _ _ (s.slots t)
 ·rw [iN e];exact s.slots t'
theorem Qql {S:Bool→Nat→Prop} {w:World} {t:Bool} {s n:Nat} {f f':Nat→CV} {u:Value} (hf:∀j,j<n*s→∀x,XX S w (f j) x→XX S w (f' j) x) (hr:XX S w (.row t s n f) u):XX S w (.row t s n f') u:=by
 obtain⟨A,c,hv,hc,hn⟩:=hr
 refine⟨A,c,hv,hc,fun h0=> ?_⟩
 obtain⟨ad,hA,hS,hj⟩:=hn h0
 refine⟨ad,hA,hS,fun j hjl=> ?_⟩
 obtain⟨x,hx,hr⟩:=hj j hjl
 exact⟨x,hx,hf j hjl x hr⟩
theorem Qto {t g off n m:Nat} {ty:TypeId} {zs ys:List Nat} {σ':Sl} {h':Qa} (ht:σ.get t=.c (.osl g 1 off n)) (hg:h.get g=some (.cells ty m (wf zs))) (hm:off+n≤m) (hn:¬E.C.own0 g) (hl:n=ys.length) (hy:∀j,j<n→zs.getD (off+j) 0=ys.getD j 0) (hσ:σ.set t (.c (ws true ys))=σ') (hh:h.del g=h')
  (k:aw E K σ' h'):aw E K σ h:=by
 subst hσ hl
 refine Qqk ht hg om hn rfl hh (Zs (t:=t) (v:=.c (ws true ys)) (fun S w u hr=> ?_) rfl ?_)
 ·rw [Sl.get_set,iP rfl] at hr
  refine Qql (fun j hj x hx=> ?_) hr
  have:wf zs (off+j)=.int .u32 (ys.getD j 0:Nat):=by rw [QvL,hy j om]
  rw [this] at hx
  exact hx
 ·have e:∀(σ:Sl) (v v':AV),(σ.set t v).set t v'=σ.set t v':=by
   intro σ v v'
   induction σ with
   |nil=>simp [Sl.set]
   |cons p σ ih=>
    obtain⟨s,x⟩:=p
    by_cases h:s=t
    ·subst h;simp [Sl.set]
    ·simp [Sl.set,h,ih]
  rw [e];exact k
end
end
section
def Qa.ne (g:Nat):Qa→Prop
 |[]=>True
 |(g',_)::h=>((g=g')=False∧(g'=g)=False)∧Qa.ne g h
theorem Qa.ne_of {g:Nat}:∀{h:Qa},g∉h.keys→Qa.ne g h
 |[],_=>trivial
 |(g',_)::h,hg=>by
  simp only [Qa.keys,Ld,Lb,not_or] at hg
  exact⟨⟨eq_false hg.1,eq_false fun e=>hg.1 e.symm⟩,Qa.ne_of hg.2⟩
theorem Sl.set_same:∀{σ:Sl} {t:Nat} {v:AV},σ.get t=v→v≠.c .any→σ.set t v=σ
 |[],t,v,h,hn=>by simp [Sl.get] at h;exact absurd h.symm hn
 |(s,x)::σ,t,v,h,hn=>by
  by_cases e:s=t
  ·subst e;simp [Sl.get] at h;subst h;simp [Sl.set]
  ·simp only [Sl.get,e,if_false] at h
   simp only [Sl.set,e,if_false,Sl.set_same h hn]
section
variable {E : Vl} {K : List It} {σ σ' : Sl} {h : Qa} {all rest : List Oper} {o : Oper}
theorem ZD (t:Nat) {b:Bool} (hb:σ.get t=.c (.bool b)) (k1:b=true→aw E K (σ.set t (.c (.bool true))) h) (k2:b=false→aw E K (σ.set t (.c (.bool false))) h):aw E K σ h:=by
 cases b with
 |true=>have:=k1 rfl;rwa [Sl.set_same hb (fun e=>by cases e)] at this
 |false=>have:=k2 rfl;rwa [Sl.set_same hb (fun e=>by cases e)] at this
theorem Qcv (t:Nat) {b:Bool} {l:List Oper} {n:Nat} (hb:σ.get t=.c (.bool b)) (k1:b=true→YE E h l K n rest (σ.set t (.c (.bool true)))) (k2:b=false→YE E h l K n rest (σ.set t (.c (.bool false)))):YE E h l K n rest σ:=by
 cases b with
 |true=>have:=k1 rfl;rwa [Sl.set_same hb (fun e=>by cases e)] at this
 |false=>have:=k2 rfl;rwa [Sl.set_same hb (fun e=>by cases e)] at this
theorem QiD {t:Nat} {x y:Code} (hb:σ.get t=.c (.bool true)) (k:aw E (.code x::K) σ h):aw E (.code (.cond (.tmp t) x y)::K) σ h:=
 QS hb (fun _=>k) (fun e=>by cases e)
theorem QiE {t:Nat} {x y:Code} (hb:σ.get t=.c (.bool false)) (k:aw E (.code y::K) σ h):aw E (.code (.cond (.tmp t) x y)::K) σ h:=
 QS hb (fun e=>by cases e) (fun _=>k)
theorem Yl (σ':Sl) (h':Qa) (hs:Sl.sub σ' σ) (hh:h'.Sublist h) (k:aw E K σ' h'):aw E K σ h:=QM (Sl.sub_le hs) hh k
end
end
end Go.AI
namespace Go.PN
abbrev BS:=List UInt8
def XF (l:BS) (i:Nat):Nat:=(l.getD i 0).toNat
def VN (l:BS) (i e:Nat):BS:=(l.drop i).take (e-i)
end Go.PN
namespace Go.AI
open Go.PN
section
abbrev sB (l:List UInt8):ByteArray:=⟨l.toArray⟩
def Qmp (a:ByteArray) (i:Nat):Int:=((XF a.data.toList i:Nat):Int)
def OP (a:ByteArray) (i e:Nat):ByteArray:=⟨(VN a.data.toList i e).toArray⟩
@[go_sem] theorem QxT (l:BS) (i:Nat):Qmp ⟨l.toArray⟩ i=((XF l i:Nat):Int):=rfl
@[go_sem] theorem QxF (l:BS) (i e:Nat):OP ⟨l.toArray⟩ i e=⟨(VN l i e).toArray⟩:=rfl
@[go_sem] theorem Qy5 (l:BS):ByteArray.size ⟨l.toArray⟩=l.length:=rfl
@[go_sem] theorem QxG (a b:BS):(⟨a.toArray⟩:ByteArray)++(⟨b.toArray⟩:ByteArray)=⟨(a++b).toArray⟩:=by apply ByteArray.ext;simp
theorem Qmq (l:List UInt8):∀(k i:Nat) (r:List UInt8),l.length-i=k→ByteArray.toList.loop ⟨l.toArray⟩ i r=r.reverse++l.drop i
 |0,i,r,hk=>by
  rw [ByteArray.toList.loop,iN (show¬i<(⟨l.toArray⟩:ByteArray).size from by show¬i<l.length;omega),List.drop_of_length_le om,Lp]
 |k+1,i,r,hk=>by
  have hi:i<l.length:=by omega
  rw [ByteArray.toList.loop,iP (show i<(⟨l.toArray⟩:ByteArray).size from hi),Qmq l k (i+1) _ om]
  have:(⟨l.toArray⟩:ByteArray).get! i=l[i]:=by
   show l.toArray[i]! =_
   simp [hi]
  rw [this,List.drop_eq_getElem_cons hi]
  simp
theorem JF (l:List UInt8):(sB l).toList=l:=by
 unfold ByteArray.toList
 rw [Qmq l _ 0 [] rfl];rfl
@[go_sem] theorem Xay (a b:List UInt8):Ku (sB a) (sB b)=Op.bytesLess a b:=by unfold Ku;rw [JF,JF]
theorem Qwg (a:List UInt8) (i:Nat):(sB a)[i]?=a[i]?:=by
 by_cases h:i<a.length
 ·rw [getElem?_pos (⟨a.toArray⟩:ByteArray) i h,Li h];rfl
 ·rw [getElem?_neg (⟨a.toArray⟩:ByteArray) i h,List.getElem?_eq_none om]
@[go_sem] theorem Qqm (a b:List UInt8):Jm ⟨a.toArray⟩ ⟨b.toArray⟩=(a==b):=by unfold Jm;rw [show(⟨a.toArray⟩:ByteArray).toList=a from JF a,show(⟨b.toArray⟩:ByteArray).toList=b from JF b]
theorem Qqn (a:ByteArray):a=sB a.data.toList:=by cases a;rfl
theorem Qwh (l:BS) (i e:Nat) (h:e≤l.length):(sB l).extract i e=sB (VN l i e):=by
 apply ByteArray.ext
 simp [VN,List.take_drop]
def Qcw (P:Program) (t:TypeId):Bool:=match P.underlying t with
 |some .string=>true
 |_=>false
theorem JG {P:Program} {t:TypeId} (h:Qcw P t=true):P.underlying t=some .string:=by
 unfold Qcw at h
 split at h
 ·assumption
 ·cases h
section
variable {P : Program} {h : Qa} {ρ : Operand → AV}
theorem QA.lenA {t:TypeId} {x:Operand} {a:ByteArray} (ht:Qcw P t=true) (hx:ρ x=.c (.str a)):QA P h ρ (.call {callee:=.builtin .len,args:= #[x],argTypes:= #[t]}) (.c (.int .i64 (a.size:Int))):=fun S w e _ ho _=>by
 have h2:e x=.string a:=by have:=ho x (by simp [Op.operands,Call.operands]);rw [hx] at this;exact this
 exact⟨.int .i64 a.size,fun o hop=>by simp [execOp,hop,resolve,invoke,Go.builtin,Builtin.len_,h2,run_underlying (JG ht),goInt],rfl⟩
theorem QA.indexA {t:TypeId} {x ix:Operand} {k:IntKind} {a:ByteArray} {i:Int} (ht:Qcw P t=true) (hx:ρ x=.c (.str a)) (hix:ρ ix=.c (.int k i)) (h0:0≤i) (h1:i<a.size):QA P h ρ (.index t x ix) (.c (.int .u8 (Qmp a i.toNat))):=fun S w e _ ho _=>by
 obtain⟨n,rfl⟩:=Int.eq_ofNat_of_zero_le h0
 have e1:e x=.string a:=by have:=ho x Ag;rw [hx] at this;exact this
 have e2:e ix=.int k (n:Int):=by have:=ho ix Ag;rw [hix] at this;exact this
 have hi:n<a.size:=by omega
 refine⟨_,fun o hop=> ?_,rfl⟩
 have hg:=Qwg a.data.toList n
 rw [←Qqn a] at hg
 have hl:n<a.data.toList.length:=by rw [Array.length_toList];exact hi
 rw [Li hl] at hg
 unfold Qmp XF
 rw [Int.toNat_natCast,Lg,Li hl]
 simp [execOp,hop,e1,e2,Instr.index,asIntOf,run_underlying (JG ht),hg]
theorem QA.sliceA {t:TypeId} {x:Operand} {lo hi:Option Operand} {a:ByteArray} {i j:Int} (ht:Qcw P t=true) (hx:ρ x=.c (.str a)) (hlo:match lo with|none=>i=0|some y=>∃k,ρ y=.c (.int k i)) (hhi:match hi with|none=>j=a.size|some y=>∃k,ρ y=.c (.int k j)) (h0:0≤i) (h1:i≤j) (h2:j≤a.size):
  QA P h ρ (.slice t x lo hi none) (.c (.str (OP a i.toNat j.toNat))):=fun S w e _ ho _=>by
 obtain⟨n,rfl⟩:=Int.eq_ofNat_of_zero_le h0
 obtain⟨m,rfl⟩:=Int.eq_ofNat_of_zero_le (Int.le_trans h0 h1)
 have e1:e x=.string a:=by have:=ho x Ag;rw [hx] at this;exact this
 have hn:n≤m:=by omega
 have hm:m≤a.size:=by omega
 have hc:a.extract n m=OP a n m:=by
  conv=>lhs;rw [Qqn a]
  exact Qwh _ _ _ (by rw [Array.length_toList];exact hm)
 refine⟨.string (OP a n m),fun o hop=> ?_,rfl⟩
 cases lo with
 |none=>
  have hn0:n=0:=by have:((n:Nat):Int)=0:=hlo;omega
  subst hn0
  cases hi with
  |none=>
   have hm0:m=a.size:=by have:((m:Nat):Int)=a.size:=hhi;omega
   subst hm0
   have hc':OP a 0 a.size=a:=by rw [←hc];simp
   simp [execOp,hop,e1,Instr.sliceAt,Instr.slice,Instr.sliceBounds,run_underlying (JG ht),hc']
  |some z=>
   obtain⟨k,hz⟩:=hhi
   have e3:e z=.int k (m:Int):=by have:=ho z Ag;rw [hz] at this;exact this
   simp [execOp,hop,e1,e3,Instr.sliceAt,Instr.slice,Instr.sliceBounds,Instr.sliceBound,asIntOf,run_underlying (JG ht),hc,hm,hn]
 |some y=>
  obtain⟨k,hy⟩:=hlo
  have e2:e y=.int k (n:Int):=by have:=ho y Ag;rw [hy] at this;exact this
  cases hi with
  |none=>
   have hm0:m=a.size:=by have:((m:Nat):Int)=a.size:=hhi;omega
   subst hm0
   simp [execOp,hop,e1,e2,Instr.sliceAt,Instr.slice,Instr.sliceBounds,Instr.sliceBound,asIntOf,run_underlying (JG ht),hc,hn]
  |some z=>
   obtain⟨k',hz⟩:=hhi
   have e3:e z=.int k' (m:Int):=by have:=ho z Ag;rw [hz] at this;exact this
   simp [execOp,hop,e1,e2,e3,Instr.sliceAt,Instr.slice,Instr.sliceBounds,Instr.sliceBound,asIntOf,run_underlying (JG ht),hc,hm,hn]
def Qmr (P:Program) (t:TypeId):AV→AV→Option (Prop×AV)
 |.c (.str a),.c (.int _ i)=>some (Qcw P t=true∧0≤i∧i<(a.size:Int),.c (.int .u8 (Qmp a i.toNat)))
 |_,_=>none
def Qms (P:Program) (ρ:Operand→AV) (t:TypeId) (a:ByteArray):Option Operand→Option Operand→Option (Prop×AV)
 |some y,some z=>match ρ y,ρ z with
  |.c (.int _ i),.c (.int _ j)=>some (Qcw P t=true∧0≤i∧i≤j∧j≤(a.size:Int),.c (.str (OP a i.toNat j.toNat)))
  |_,_=>none
 |some y,none=>match ρ y with
  |.c (.int _ i)=>some (Qcw P t=true∧0≤i∧i≤(a.size:Int),.c (.str (OP a i.toNat a.size)))
  |_=>none
 |none,some z=>match ρ z with
  |.c (.int _ j)=>some (Qcw P t=true∧0≤j∧j≤(a.size:Int),.c (.str (OP a 0 j.toNat)))
  |_=>none
 |none,none=>none
theorem Qqo {t:TypeId} {x ix:Operand} {req:Prop} {r:AV} (hb:Qmr P t (ρ x) (ρ ix)=some (req,r)) (hreq:req):QA P h ρ (.index t x ix) r:=by
 unfold Qmr at hb
 split at hb
 ·rename_i hx hix
  simp only [Aa,Ab] at hb
  obtain⟨rfl,rfl⟩:=hb
  exact QA.indexA hreq.1 hx hix hreq.2.1 hreq.2.2
 ·cases hb
theorem Qqp {t:TypeId} {x:Operand} {a:ByteArray} {lo hi:Option Operand} {req:Prop} {r:AV} (hx:ρ x=.c (.str a)) (hb:Qms P ρ t a lo hi=some (req,r)) (hreq:req):QA P h ρ (.slice t x lo hi none) r:=by
 unfold Qms at hb
 split at hb
 ·split at hb
  ·rename_i hy hz
   simp only [Aa,Ab] at hb
   obtain⟨rfl,rfl⟩:=hb
   exact QA.sliceA hreq.1 hx ⟨_,hy⟩ ⟨_,hz⟩ hreq.2.1 hreq.2.2.1 hreq.2.2.2
  ·cases hb
 ·split at hb
  ·rename_i hy
   simp only [Aa,Ab] at hb
   obtain⟨rfl,rfl⟩:=hb
   have:=QA.sliceA (h:=h) (lo:=some _) (hi:=none) (j:=(a.size:Int)) hreq.1 hx ⟨_,hy⟩ rfl hreq.2.1 hreq.2.2 (Int.le_refl _)
   simpa using this
  ·cases hb
 ·split at hb
  ·rename_i hz
   simp only [Aa,Ab] at hb
   obtain⟨rfl,rfl⟩:=hb
   exact QA.sliceA (h:=h) (lo:=none) (hi:=some _) (i:=0) hreq.1 hx rfl ⟨_,hz⟩ (Int.le_refl _) hreq.2.1 hreq.2.2
  ·cases hb
 ·cases hb
end
end
end Go.AI
namespace Go.AI
section
def QaY:AV→Bool
 |.tup _=>false
 |.c x=>x.solid
 |.agg xs=>xs.all CV.solid
theorem OQ {x:AV} (h:QaY x=true):(∀xs,x≠.tup xs)∧x.cells.all CV.solid=true:=by
 cases x with
 |tup xs=>cases h
 |c x=>exact⟨(fun _ e=>by cases e),by simpa [QaY,AV.cells] using h⟩
 |agg xs=>exact⟨(fun _ e=>by cases e),by simpa [QaY,AV.cells] using h⟩
def Qbr (ρ:Operand→AV):List (Nat×Operand)→Bool
 |[]=>true
 |p::ps=>QaY (ρ p.2)&&Qbr ρ ps
theorem Qbs {ρ:Operand→AV}:∀{ps:List (Nat×Operand)},Qbr ρ ps=true→∀p∈ps,(∀xs,ρ p.2≠.tup xs)∧(ρ p.2).cells.all CV.solid=true
 |[],_,p,hp=>by simp at hp
 |q::ps,h,p,hp=>by
  simp only [Qbr,Ba] at h
  rcases Lb.1 hp with e|hp
  ·subst e;exact OQ h.1
  ·exact Qbs h.2 p hp
section
variable {P : Program} {h : Qa} {ρ : Operand → AV}
def OR (ρ:Operand→AV):List (Nat×Operand)→List (Nat×List CV)
 |[]=>[]
 |p::ps=>(p.1,(ρ p.2).cells)::OR ρ ps
theorem Qdj (ρ:Operand→AV):∀ps:List (Nat×Operand),OR ρ ps=ps.map fun p=>(p.1,(ρ p.2).cells)
 |[]=>rfl
 |p::ps=>by simp [OR,Qdj ρ ps]
def Qhi (P:Program) (ρ:Operand→AV) (t:TypeId) (ps:List (Nat×Operand)):Option (Prop×AV):=
 match Xk P t,Qj P t with
 |some fl,some z=>match Qec fl z (OR ρ ps) with
  |some out=>some (Qbr ρ ps=true,.agg out)
  |none=>none
 |_,_=>none
theorem JH {t:TypeId} {ps:List (Nat×Operand)} {req:Prop} {r:AV} (hb:Qhi P ρ t ps=some (req,r)) (hreq:req):QA P h ρ (.build t ps.toArray) r:=by
 unfold Qhi at hb
 split at hb
 ·rename_i fl z hfl hz
  split at hb
  ·rename_i out hout
   simp only [Aa,Ab] at hb
   obtain⟨rfl,rfl⟩:=hb
   refine Qed (req:=∀p∈ps,(∀xs,ρ p.2≠.tup xs)∧(ρ p.2).cells.all CV.solid=true) ?_ (Qbs hreq)
   unfold Qbn
   rw [hfl,hz]
   simp only
   rw [←Qdj,hout]
  ·cases hb
 ·cases hb
def Qmt (P:Program) (t:TypeId):Bool:=match P.underlying t with
 |some (.struct _)=>true
 |_=>false
theorem QaZ {t:TypeId} (h:Qmt P t=true):P.underlying t=some (.struct (P.fieldsOf t)):=by
 unfold Qmt at h
 unfold Program.fieldsOf
 split at h
 ·rename_i fs hfs;rw [hfs]
 ·cases h
def Qeo (P:Program) (t:TypeId):Option Nat:=
 if !P.stoodInHeld t&& !P.eqGuardType P.depth t&&(P.fieldsOf t).toList.zipIdx.all (fun p=>p.1.name != "_" &&p.1.offset==p.2&&(Z4 P p.1.type).isSome)&&Qmt P t then some (P.fieldsOf t).size else none
def QaJ:List CV→Option (List Int)
 |[]=>some []
 |.int .i64 n::l=>match QaJ l with
  |some ns=>some (n::ns)
  |none=>none
 |_=>none
theorem Wi {S:Bool→Nat→Prop} {w:World}:∀{cs:List CV} {ns:List Int} {us:List Value},QaJ cs=some ns→X4 S w cs us→us=ns.map (Value.int .i64)
 |[],ns,us,h1,h2=>by
  simp [QaJ] at h1;subst h1
  cases us with
  |nil=>rfl
  |cons u us=>exact h2.elim
 |c::cs,ns,us,h1,h2=>by
  cases us with
  |nil=>exact h2.elim
  |cons u us=>
   unfold QaJ at h1
   split at h1
   ·rename_i heq;cases heq
   ·rename_i n l heq
    cases heq
    split at h1
    ·rename_i ns' hns
     injection h1 with h1
     subst h1
     have hu:u=.int .i64 n:=h2.1
     rw [hu,Ld,Wi hns h2.2]
    ·cases h1
   ·cases h1
def eqZ:List Int→List Int→Bool
 |[],[]=>true
 |a::iu,b::bs=>a==b&&eqZ iu bs
 |_,_=>false
theorem Qqq:∀{iu bs:List Int},eqZ iu bs=decide (iu=bs)
 |[],[]=>by simp [eqZ]
 |a::iu,b::bs=>by
  simp only [eqZ,Qqq (iu:=iu) (bs:=bs),List.cons.injEq,Bool.decide_and]
  rfl
 |[],b::bs=>by simp [eqZ]
 |a::iu,[]=>by simp [eqZ]
theorem UE {P:Program} (w:World) (xs ys:Array Value) (iu bs:List Int) (hx:xs=(iu.map (Value.int .i64)).toArray) (hy:ys=(bs.map (Value.int .i64)).toArray) (hl:iu.length=bs.length):
  ∀(fs:List Field) (k:Nat),(fs.zipIdx k).all (fun p=>p.1.name != "_" &&p.1.offset==p.2&&(Z4 P p.1.type).isSome)=true→k+fs.length=iu.length→(Op.eqFields 9999 xs ys fs).run P w=.ok (eqZ (iu.drop k) (bs.drop k)) w
 |[],k,_,hk=>by
  rw [List.drop_of_length_le (by simp at hk;omega),List.drop_of_length_le (by simp at hk;omega)]
  simp [Op.eqFields,eqZ]
 |f::fs,k,hf,hk=>by
  simp only [List.zipIdx_cons,List.all_cons,Ba,bne_iff_ne,ne_eq,beq_iff_eq] at hf
  obtain⟨⟨⟨hn,ho⟩,hi⟩,hr⟩:=hf
  simp only [Lc] at hk
  have hka:k<iu.length:=by omega
  have hkb:k<bs.length:=by omega
  obtain⟨kk,hkk⟩:=Option.isSome_iff_exists.1 hi
  have hu:=Kx hkk
  have hag:(isAgg f.type).run P w=.ok false w:=by simp [isAgg,run_underlying hu]
  have e1:xs[k]?=some (Value.int .i64 (iu[k])):=by rw [hx];simp [hka]
  have e2:ys[k]?=some (Value.int .i64 (bs[k])):=by rw [hy];simp [hkb]
  have p1:(part f.type xs f.offset).run P w=.ok (.int .i64 (iu[k])) w:=by
   unfold part
   simp only [Sem.run_bind,hag,Result.andThen_ok,Bool.false_eq_true,if_false,ho,e1,Sem.run_pure]
  have p2:(part f.type ys f.offset).run P w=.ok (.int .i64 (bs[k])) w:=by
   unfold part
   simp only [Sem.run_bind,hag,Result.andThen_ok,Bool.false_eq_true,if_false,ho,e2,Sem.run_pure]
  have p3:(Op.equalIn 9999 f.type (.int .i64 (iu[k])) (.int .i64 (bs[k]))).run P w=.ok (iu[k]==bs[k]) w:=run_equalIn_int w 9998 f.type .i64 kk _ _ hu
  have ih:=UE w xs ys iu bs hx hy hl fs (k+1) (by simpa using hr) om
  rw [List.drop_eq_getElem_cons hka,List.drop_eq_getElem_cons hkb]
  simp only [Op.eqFields,hn,not_false_eq_true,if_true,Sem.run_bind,p1,p2,p3,Result.andThen_ok,eqZ,ne_eq]
  cases hab:(iu[k]==bs[k]) with
  |true=>simpa using ih
  |false=>simp
theorem Wj:∀{cs:List CV} {ns:List Int},QaJ cs=some ns→ns.length=cs.length
 |[],ns,h=>by simp [QaJ] at h;subst h;rfl
 |c::cs,ns,h=>by
  unfold QaJ at h
  split at h
  ·rename_i heq;cases heq
  ·rename_i n l heq
   cases heq
   split at h
   ·rename_i ns' hns
    injection h with h
    subst h
    simp [Wj hns]
   ·cases h
  ·cases h
theorem Qep {t n:Nat} (ht:Qeo P t=some n) {iu bs:List Int} (ha:iu.length=n) (hb:bs.length=n) (w:World):(Op.equalIn 10000 t (.agg (iu.map (Value.int .i64)).toArray) (.agg (bs.map (Value.int .i64)).toArray)).run P w=.ok (eqZ iu bs) w∧P.eqGuardType P.depth t=false:=by
 unfold Qeo at ht
 split at ht
 ·rename_i hc
  simp only [Ba,Bool.not_eq_true'] at hc
  obtain⟨⟨⟨h1,h2⟩,h3⟩,h4⟩:=hc
  injection ht with ht
  refine⟨?_,h2⟩
  have hu:=QaZ h4
  rw [show(10000:Nat)=9999+1 from rfl,run_equalIn_agg w 9999 t _ _ hu h1]
  have:=UE (P:=P) w _ _ iu bs rfl rfl om (P.fieldsOf t).toList 0 h3 (by simp;omega)
  simpa using this
 ·cases ht
def eqAgg (P:Program) (op:BinOp) (t:TypeId) (xs ys:List CV):Option (Prop×AV):=
 match Qeo P t,QaJ xs,QaJ ys,op with
 |some n,some iu,some bs,.eql=>some (xs.length=n∧ys.length=n,.c (.bool (eqZ iu bs)))
 |some n,some iu,some bs,.neq=>some (xs.length=n∧ys.length=n,.c (.bool (!eqZ iu bs)))
 |_,_,_,_=>none
theorem QA.eqAgg {op:BinOp} {t t':TypeId} {x y:Operand} {xs ys:List CV} {req:Prop} {r:AV} (hx:ρ x=.agg xs) (hy:ρ y=.agg ys) (hr:AI.eqAgg P op t xs ys=some (req,r)) (hreq:req):QA P h ρ (.binOp op t x y t') r:=fun S w e _ ho _=>by
 have h1:=ho x Ag
 have h2:=ho y Ag
 rw [hx] at h1
 rw [hy] at h2
 obtain⟨us,hu,hru⟩:=h1
 obtain⟨vs,hv,hrv⟩:=h2
 unfold AI.eqAgg at hr
 split at hr
 ·rename_i n iu bs ht ha hb
  simp only [Aa,Ab] at hr
  obtain⟨rfl,rfl⟩:=hr
  obtain⟨r1,r2⟩:=Qep ht (iu:=iu) (bs:=bs) (by rw [Wj ha];exact hreq.1) (by rw [Wj hb];exact hreq.2) w
  have e1:=Wi ha hru
  have e2:=Wi hb hrv
  refine⟨.bool (eqZ iu bs),fun o hop=>Ze hop ?_ ?_,rfl⟩
  ·rw [hu,hv];exact run_eqGuard_agg w _ _ _ _ _ _ r2
  ·rw [hu,hv,run_eql_struct,e1,e2,r1];rfl
 ·rename_i n iu bs ht ha hb
  simp only [Aa,Ab] at hr
  obtain⟨rfl,rfl⟩:=hr
  obtain⟨r1,r2⟩:=Qep ht (iu:=iu) (bs:=bs) (by rw [Wj ha];exact hreq.1) (by rw [Wj hb];exact hreq.2) w
  have e1:=Wi ha hru
  have e2:=Wi hb hrv
  refine⟨.bool (!eqZ iu bs),fun o hop=>Ze hop ?_ ?_,rfl⟩
  ·rw [hu,hv];exact run_eqGuard_agg w _ _ _ _ _ _ r2
  ·rw [hu,hv,run_neq_struct,e1,e2,r1];rfl
 ·cases hr
def tZI (P:Program) (t:TypeId):Option (IntKind×Int):=match (P.info? t).bind (·.zero) with
 |some (.int k n)=>some (k,n)
 |_=>none
theorem Qtp {t:TypeId} {k:IntKind} {n:Int} (h:tZI P t=some (k,n)) (w:World):(zeroValue t).run P w=.ok (.int k n) w:=by
 unfold tZI at h
 split at h
 ·rename_i k' n' he
  simp only [Aa,Ab] at h
  obtain⟨rfl,rfl⟩:=h
  cases hi:P.info? t with
  |none=>rw [hi] at he;cases he
  |some i=>
   rw [hi] at he
   have hz:i.zero=some (.int k' n'):=he
   simp [zeroValue,typeInfo,hi,hz]
 ·cases h
def Qbt (P:Program) (t:TypeId):AV→Option (Prop×AV)
 |.c (.ifc u c)=>match Z4 P t with
  |some _=>if u=t then some (True,.tup [.c c,.c (.bool true)]) else none
  |none=>none
 |.c .nilI=>match Z4 P t,tZI P t with
  |some _,some (k,z)=>some (True,.tup [.c (.int k z),.c (.bool false)])
  |_,_=>none
 |_=>none
theorem QA.assertA {x:Operand} {xt t:TypeId} {req:Prop} {r:AV} (hr:Qbt P t (ρ x)=some (req,r)) (hreq:req):QA P h ρ (.typeAssert x xt t true) r:=fun S w e _ ho _=>by
 have h1:=ho x Ag
 unfold Qbt at hr
 split at hr
 ·rename_i u c hx
  rw [hx] at h1
  obtain⟨v,hv,hc⟩:=h1
  split at hr
  ·rename_i k hk
   split at hr
   ·rename_i e1
    subst e1
    simp only [Aa,Ab] at hr
    obtain⟨rfl,rfl⟩:=hr
    refine⟨.tuple #[v,.bool true],fun o hop=> ?_,[v,.bool true],rfl,hc,rfl,trivial⟩
    simp [execOp,hop,hv,Instr.typeAssert,run_underlying (Kx hk)]
   ·cases hr
  ·cases hr
 ·rename_i hx
  rw [hx] at h1
  have hv:e x=.nilIface:=h1
  split at hr
  ·rename_i k0 k z hk hz
   simp only [Aa,Ab] at hr
   obtain⟨rfl,rfl⟩:=hr
   refine⟨.tuple #[.int k z,.bool false],fun o hop=> ?_,[.int k z,.bool false],rfl,rfl,rfl,trivial⟩
   simp [execOp,hop,hv,Instr.typeAssert,run_underlying (Kx hk),Qtp hz]
  ·cases hr
 ·cases hr
theorem QA.nilCheckR {x:Operand} {n:Nat} {f:Nat→CV} (hx:ρ x=.c (.rptr n f)):QA P h ρ (.nilCheck x) (.c (.rptr n f)):=fun S w e _ ho _=>by
 have h1:=ho x Ag
 rw [hx] at h1
 have h1':=h1
 obtain⟨ad,hv,_⟩:=h1
 exact⟨e x,fun o hop=>by simp only [execOp,hop,hv];rfl,h1'⟩
noncomputable def WV (P:Program) (nw:Bool) (h:Qa) (ρ:Operand→AV):Op→Option (Prop×AV)
 |.build t ⟨ps⟩=>Qhi P ρ t ps
 |.typeAssert x _ t true=>Qbt P t (ρ x)
 |.binOp op t x y t'=>match ρ x,ρ y with
  |.agg xs,.agg ys=>eqAgg P op t xs ys
  |a,b=>We P nw op t y a b
 |.nilCheck x=>match ρ x with
  |.c (.rptr n f)=>some (True,.c (.rptr n f))
  |.c (.optr g off)=>some (True,.c (.optr g off))
  |_=>none
 |.index t x ix=>Qmr P t (ρ x) (ρ ix)
 |.slice t x lo hi none=>match ρ x with
  |.c (.str a)=>Qms P ρ t a lo hi
  |_=>Qbm P ρ t x lo hi
 |.call {callee:=.builtin .len,args:=⟨[x]⟩,argTypes:=⟨[t]⟩}=>match ρ x with
  |.c (.str a)=>some (Qcw P t=true,.c (.int .i64 (a.size:Int)))
  |.c c=>match QR P t with
   |some _=>(Qbl c).map fun(n:Nat)=>(True,.c (.int .i64 (n:Int)))
   |none=>none
  |_=>none
 |op=>QaW P nw h ρ op
theorem WW {nw:Bool} {op:Op} {req:Prop} {r:AV} (hk:∀v,ρ (.const v)=cst v) (hb:WV P nw h ρ op=some (req,r)) (hreq:req):QA P h ρ op r:=by
 unfold WV at hb
 split at hb
 ·exact JH hb hreq
 ·exact QA.assertA hb hreq
 ·split at hb
  ·rename_i hx hy;exact QA.eqAgg hx hy hb hreq
  ·exact Qiv hk hb hreq
 ·split at hb
  ·rename_i hx
   simp only [Aa,Ab] at hb;obtain⟨rfl,rfl⟩:=hb;exact QA.nilCheckR hx
  ·rename_i hx
   simp only [Aa,Ab] at hb;obtain⟨rfl,rfl⟩:=hb;exact QA.nilCheckO hx
  ·cases hb
 ·exact Qqo hb hreq
 ·split at hb
  ·rename_i hx;exact Qqp hx hb hreq
  ·exact Qeb hb hreq
 ·split at hb
  ·rename_i hx
   simp only [Aa,Ab] at hb;obtain⟨rfl,rfl⟩:=hb;exact QA.lenA hreq hx
  ·rename_i c _ hx
   split at hb
   ·rename_i ht
    cases hn:Qbl c with
    |none=>rw [hn] at hb;cases hb
    |some n=>
     rw [hn] at hb
     simp only [Option.map_some,Aa,Ab] at hb;obtain⟨rfl,rfl⟩:=hb;exact QA.lenS ht hx hn
   ·cases hb
  ·cases hb
 ·exact Qco hk hb hreq
noncomputable def Zt (P:Program) (nw:Bool) (h:Qa) (all:List Oper) (o:Oper) (σ:Sl):Option (Prop×Sl):=
 match Qx all σ o with
 |some true=>match WV P nw h (ev σ) o.op with
  |some (q,r)=>some (q,σ.setO o.dst r)
  |none=>none
 |some false=>some (True,σ.setO o.dst (.tup []))
 |none=>none
end
section
variable {E : Vl} {K : List It} {σ σ' : Sl} {h : Qa} {all rest : List Oper} {o : Oper}
theorem Qbu (nw:Bool) (hd:Qw E.N o.dst=true) (k:∀R:Option (Prop×Sl)→Prop,(∀q σ',q→aw E (.ops all rest::K) σ' h→R (some (q,σ')))→R (Zt E.P nw h all o σ)):aw E (.ops all (o::rest)::K) σ h:=by
 have:=k (fun x=>x=Zt E.P nw h all o σ→aw E (.ops all (o::rest)::K) σ h) (fun q σ' hq ha e=>by
  unfold Zt at e
  split at e
  ·rename_i hw
   split at e
   ·rename_i q1 r hp
    simp only [Aa,Ab] at e
    obtain⟨rfl,rfl⟩:=e
    exact QdL hw (WW (fun _=>rfl) hp hq) hd rfl ha
   ·cases e
  ·rename_i hw
   simp only [Aa,Ab] at e
   obtain⟨rfl,rfl⟩:=e
   exact Qee hw hd rfl ha
  ·cases e)
 exact this rfl
theorem Ko.pure2 {l:List Oper} {nw:Bool} {q:Prop} {r:AV} (hw:Qx l σ o=some true) (hb:WV E.P nw h (ev σ) o.op=some (q,r)) (hq:q) (hd:Qw E.N o.dst=true):Ko E h l σ o r:=by
 refine⟨hd,fun σ' a w Q hs s=> ?_⟩
 rw [iP (s.wanted ((Xh hs).trans hw))]
 obtain⟨v,hrun,hr⟩:=WW (fun _=>rfl) hb hq (QH E.C h w) w a.eval QH.mono' (fun x hx=>by rw [←XI hx hs];exact QK s x) s.heap
 unfold Oper.wp
 rw [hrun o rfl]
 exact s.put hd hr
theorem Qwi {l rest:List Oper} {n:Nat} (nw:Bool) (hd:Qw E.N o.dst=true) (k:∀R:Option (Prop×Sl)→Prop,(∀q σ',q→YE E h l K n rest σ'→R (some (q,σ')))→R (Zt E.P nw h l o σ)):YE E h l K (n+1) (o::rest) σ:=by
 have:=k (fun x=>x=Zt E.P nw h l o σ→YE E h l K (n+1) (o::rest) σ) (fun q σ' hq ha e=>by
  unfold Zt at e
  split at e
  ·rename_i hw
   split at e
   ·rename_i q1 r hp
    simp only [Aa,Ab] at e
    obtain⟨rfl,rfl⟩:=e
    exact Wg (Ko.pure2 hw hp hq hd) ha
   ·cases e
  ·rename_i hw
   simp only [Aa,Ab] at e
   obtain⟨rfl,rfl⟩:=e
   exact Wg (Ko.skip hw hd) ha
  ·cases e)
 exact this rfl
end
attribute [go_sem] Qmr Qms WV Zt Qhi QaY Qbr OR Qec Qoe CV.solid eqAgg QaJ eqZ Qbt List.set_cons_zero List.set_cons_succ Bool.and_true Bool.true_and Bool.and_self and_true true_and and_self List.all_cons List.all_nil
section
variable {E : Vl} {K : List It} {σ : Sl} {h : Qa} {all l rest : List Oper} {o : Oper}
theorem wb1 (hd:Qw E.N o.dst=true) (k:∀R:Option (Prop×Sl)→Prop,(∀q σ',aw E (.ops all rest::K) σ' h→(hq:q:=by(try simp only [XH])<;>and_intros<;>first|exact True.intro|omega|trivial)→R (some (q,σ')))→R (Zt E.P true h all o σ)):aw E (.ops all (o::rest)::K) σ h:=
 Qbu true hd fun R r=>k R fun q σ' ha hq=>r q σ' hq ha
theorem wd1 {n:Nat} (hd:Qw E.N o.dst=true) (k:∀R:Option (Prop×Sl)→Prop,(∀q σ',YE E h l K n rest σ'→(hq:q:=by(try simp only [XH])<;>and_intros<;>first|exact True.intro|omega|trivial)→R (some (q,σ')))→R (Zt E.P true h l o σ)):YE E h l K (n+1) (o::rest) σ:=
 Qwi true hd fun R r=>k R fun q σ' ha hq=>r q σ' hq ha
end
end
section
def gs (og:Option Nat) (s n:Nat):CV:=match og with
 |none=>.nils
 |some g=>.osl g s 0 n
def gh (og:Option Nat) (ty:TypeId) (m:Nat) (f:Nat→CV):Qa:=match og with
 |none=>[]
 |some g=>[(g,.cells ty m f)]
@[go_sem] theorem Qtc (g s n:Nat):Qbl (gs (some g) s n)=some n:=rfl
theorem Qbv {og:Option Nat} {s n:Nat} (h:og=none→n=0):Qbl (gs og s n)=some n:=by
 cases og with
 |none=>rw [h rfl];rfl
 |some g=>rfl
section
variable {E : Vl} {K : List It} {σ σ' : Sl} {h : Qa} {all rest : List Oper} {o o1 o2 : Oper}
theorem Y0.cong {S:Bool→Nat→Prop} {w:World} {g n:Nat} {ty:TypeId} {f f':Nat→CV} (hf:∀j,j<n→f j=f' j) (hr:Y0 S w g (.cells ty n f)):Y0 S w g (.cells ty n f'):=by
 obtain⟨cs,hb,hn,hj⟩:=hr
 exact⟨cs,hb,hn,fun j hjl=>by rw [←hf j hjl];exact hj j hjl⟩
theorem QU {g n:Nat} {ty:TypeId} {f f':Nat→CV} {h:Qa} (hf:∀j,j<n→f j=f' j) (k:aw E K σ ((g,.cells ty n f')::h)):aw E K σ ((g,.cells ty n f)::h):=fun a w s=>by
 refine k a w ⟨s.size,s.defers,s.slots,fun g' o' hm=> ?_,s.nodup,s.keys,s.frame⟩
 rcases Lb.1 hm with e|hm
 ·injection e with e1 e2
  subst e1 e2
  exact Y0.cong hf (s.heap _ _ (Lf ..))
 ·exact s.heap g' o' (Lm _ hm)
theorem Qa.del_ne:∀{h:Qa} {g:Nat} {o:XD} {g0:Nat},g0≠g→Qa.del ((g0,o)::h) g=(g0,o)::h.del g:=by
 intro h g o g0 hne
 simp [Qa.del,hne]
theorem Qa.del_app:∀{pre:Qa} {g:Nat} {o:XD},g∉pre.keys→Qa.del (pre++[(g,o)]) g=pre
 |[],g,o,_=>by simp [Qa.del]
 |(g0,o0)::pre,g,o,hn=>by
  simp only [Qa.keys,Ld,Lb,not_or] at hn
  rw [Lq,Qa.del_ne (fun e=>hn.1 e.symm),Qa.del_app hn.2]
theorem Qa.get_app:∀{pre:Qa} {g:Nat} {o:XD},g∉pre.keys→Qa.get (pre++[(g,o)]) g=some o
 |[],g,o,_=>by simp [Qa.get]
 |(g0,o0)::pre,g,o,hn=>by
  simp only [Qa.keys,Ld,Lb,not_or] at hn
  rw [Lq]
  simp only [Qa.get,fun e:g0=g=>hn.1 e.symm,if_false]
  rw [iN (fun e:g0=g=>hn.1 e.symm)]
  exact Qa.get_app hn.2
theorem Y9 (k:h.keys.Nodup→aw E K σ h):aw E K σ h:=fun a w s=>k s.nodup a w s
theorem QX {t e size bytes n d1 s:Nat} {z:List CV} {og:Option Nat} {f f':Nat→CV} {pre:Qa} {x:Operand} {v:AV} (hop1:o1.op=.buildSlice t 1 #[(0,x)]) (hop2:o2.op=.call {callee:=.builtin .append,args:= #[.tmp s,.tmp d1],argTypes:= #[t,t]})
  (hw1:Qx all σ o1=some true) (hg2:o2.guard=none) (hd1:o1.dst=some d1) (hdk:Qw E.N o1.dst=true) (hd2:Qw E.N o2.dst=true)
  (ht:QR E.P t=some (e,size,bytes)) (hz:Qj E.P e=some z) (hzl:z.length=size) (hs0:0<size) (hsz:size≤16777216)
  (hs:σ.get s=.c (gs og size n)) (hsd:s≠d1) (hog:og=none→n=0) (hx:ev σ x=v) (hok:QaY v=true) (hvl:v.cells.length=size) (hh:h=pre++gh og e (n*size) f)
  (h63:n+1≤maxLen) (hby:(n+1)*bytes≤140737488355328) (hf:∀j,j<(n+1)*size→Xq f (n*size) (ofL v.cells) j=f' j)
  (kk:∀g',g'∉pre.keys→aw E (.ops all rest::K) ((σ.set d1 (.c .any)).setO o2.dst (.c (gs (some g') size (n+1)))) (pre++gh (some g') e ((n+1)*size) f')):aw E (.ops all (o1::o2::rest)::K) σ h:=by
 subst hh
 obtain⟨ok1,ok2⟩:=OQ hok
 have hfl:v.flat=true:=by
  cases v with
  |tup xs=>exact absurd rfl (ok1 xs)
  |c x=>rfl
  |agg xs=>rfl
 refine Qn (xs:=[x]) (cells:=v.cells) hop1 hw1 hdk ht (by rw [hz];rfl) rfl om om (by intro y hy;simp only [Lv] at hy;subst hy;rw [hx];exact⟨hfl,ok2,hvl⟩) (by simp [hx]) fun gt hgt=> ?_
 rw [hd1]
 have hw2:∀σ2,Qx all σ2 o2=some true:=fun σ2=>by unfold Qx;rw [hg2]
 have hev1:ev (Sl.setO σ (some d1) (.c (.osl gt size 0 1))) (.tmp d1)=.c (.osl gt size 0 1):=by simp [ev,Sl.setO,Sl.get_set]
 have hevs:ev (Sl.setO σ (some d1) (.c (.osl gt size 0 1))) (.tmp s)=.c (gs og size n):=by simp only [ev,Sl.setO,Sl.get_set,iN (Ne.symm hsd)];exact hs
 have hsrc:∀h0:Qa,Src ((gt,.cells e (1*size) (ofL v.cells))::h0) size (.osl gt size 0 1) 1 (ofL v.cells):=fun h0=>by
  refine .osl (f':=ofL v.cells) (m:=1*size) (ty:=e) (by simp [Qa.get]) om (fun j _=>by rw [Nz])
 have hle:∀(A B:AV) (g':Nat),Sl.le ((σ.set d1 (.c .any)).setO o2.dst B) ((Sl.setO σ (some d1) A).setO o2.dst B):=fun A B g' t'=>by
  rw [YR,YR]
  by_cases e1:o2.dst=some t'
  ·rw [iP e1,iP e1];exact .inr rfl
  ·rw [iN e1,iN e1]
   simp only [Sl.setO,Sl.get_set]
   by_cases e2:d1=t'
   ·rw [iP e2];exact .inl rfl
   ·rw [iN e2,iN e2];exact .inr rfl
 have hkp:∀g':Nat,g'∉Qa.keys ((gt,.cells e (1*size) (ofL v.cells))::pre)→g'∉pre.keys:=fun g' hg' hm=>hg' (by simp only [Qa.keys,Ld,Lb];exact .inr hm)
 have hperm:∀g':Nat,(pre++gh (some g') e ((n+1)*size) f').Sublist ((pre++[(g',.cells e ((n+1)*size) f')])):=fun g'=>Lr _
 cases og with
 |none=>
  have hn0:n=0:=hog rfl
  subst hn0
  refine WU (cx:=.osl gt size 0 1) (k:=1) (f2:=ofL v.cells) hop2 (hw2 _) hd2 ht hz hzl hs0 hevs hev1 (hsrc _) om om om fun g' hg'=> ?_
  refine QU (f':=f') (fun j hj=> ?_) ?_
  ·have:=hf j om
   rw [←this];simp [Xq]
  ·have hnew:g'∉pre.keys:=fun hm=>hg' (by simp only [Qa.keys,Ld,Lb,gh,Lp];exact .inr hm)
   refine Qi (h':=(gt,.cells e (1*size) (ofL v.cells))::(pre++[(g',.cells e (1*size) f')])) ?_ ?_
   ·have:(pre++gh none e (0*size) f)=pre:=by simp [gh]
    rw [this]
    refine(List.Perm.swap _ _ _).trans (List.Perm.cons _ ?_)
    exact(List.perm_append_singleton _ _).symm
   ·refine QM (hle _ _ g') (List.Sublist.cons _ (Lr _)) ?_
    have:=kk g' hnew
    simpa [gh,gs] using this
 |some g=>
  refine Y9 fun hnd=> ?_
  have hnp:g∉pre.keys:=fun hm=>by
   simp only [Qa.keys,gh,Ld,List.map_append,List.map_nil,List.nodup_cons] at hnd
   have:=(List.nodup_append.1 hnd.2).2.2 g hm g (by simp)
   exact this rfl
  have hgtg:gt≠g:=fun e=>hgt (by subst e;simp [Qa.keys,gh])
  refine YC (cx:=.osl gt size 0 1) (k:=1) (f2:=ofL v.cells) (g:=g) (m:=n*size) (f:=f) (h2:=(gt,.cells e (1*size) (ofL v.cells))::pre) hop2 (hw2 _) hd2 ht hz hzl hs0 hevs ?_ (Ac _) hev1 (hsrc _) ?_ om h63 hby ?_ fun g' hg'=> ?_
  ·show Qa.get ((gt,_)::(pre++[(g,_)])) g=_
   simp only [Qa.get,iN hgtg]
   exact Qa.get_app hnp
  ·intro j hj
   have hjl:j<v.cells.length:=by omega
   rw [Qak v.cells j v.cells[j] (Li hjl)]
   exact List.all_eq_true.1 ok2 _ (Le hjl)
  ·show Qa.del ((gt,_)::(pre++[(g,_)])) g=_
   rw [Qa.del_ne hgtg,Qa.del_app hnp]
  ·refine QU (f':=f') hf ?_
   refine Qi (h':=(gt,.cells e (1*size) (ofL v.cells))::(pre++[(g',.cells e ((n+1)*size) f')])) ?_ ?_
   ·refine(List.Perm.swap _ _ _).trans (List.Perm.cons _ ?_)
    exact(List.perm_append_singleton _ _).symm
   ·refine QM (hle _ _ g') (List.Sublist.cons _ (Lr _)) ?_
    exact kk g' (hkp g' hg')
theorem QxU {pre:Qa} {og:Option Nat} {e s n:Nat} {f f':Nat→CV} (hog:og=none→n=0) (hn:∀g,og=some g→g∉pre.keys) (hf:∀j,j<n*s→LeC (pre++gh og e (n*s) f) (f j) (f' j)):LeC (pre++gh og e (n*s) f) (gs og s n) (.row false s n f'):=by
 cases og with
 |none=>rw [hog rfl];exact .nils
 |some g=>exact .osl (Qa.get_app (hn g rfl)) om (fun j hj=>by rw [Nz];exact hf j hj)
theorem Qbw {zs:List Nat} {n:Nat} (hn:zs.length=n) (x:Nat):∀j,j<(n+1)*1→Xq (wf zs) (n*1) (ofL [.int .u32 (x:Int)]) j=wf (zs++[x]) j:=fun j hj=>by
 subst hn
 unfold Xq
 by_cases h:j<zs.length*1
 ·rw [iP h]
  show CV.int .u32 (zs.getD j 0:Nat)=CV.int .u32 ((zs++[x]).getD j 0:Nat)
  rw [Lg,Lg,List.getElem?_append_left om]
 ·have:j=zs.length:=by omega
  subst this
  rw [iN h]
  show ofL [CV.int .u32 (x:Int)] (zs.length-zs.length*1)=CV.int .u32 ((zs++[x]).getD zs.length 0:Nat)
  rw [Ad,Nat.sub_self,Lg,List.getElem?_append_right (Ac _),Nat.sub_self]
  rfl
theorem Qhj {og:Option Nat} {e n:Nat} {zs:List Nat} (hog:og=none→n=0) (hl:zs.length=n):LeC (gh og e n (wf zs)) (gs og 1 n) (ws false zs):=by
 subst hl
 have:=QxU (pre:=[]) (og:=og) (e:=e) (s:=1) (n:=zs.length) (f:=wf zs) (f':=fun j=>.int .u32 (zs.getD j 0:Nat)) hog (fun _ _=>by simp [Qa.keys]) (fun j _=>.refl _)
 simpa only [Ad,Ln] using this
def lf {α:Type} (s:Nat) (c:α→List CV) (d:α) (xs:List α) (j:Nat):CV:=ofL (c (xs.getD (j/s) d)) (j%s)
theorem QY {α:Type} {s:Nat} {c:α→List CV} {d:α} {xs:List α} {i k:Nat} (hk:k<s):lf s c d xs (i*s+k)=ofL (c (xs.getD i d)) k:=by
 unfold lf
 rw [Nc i s,Nat.mul_add_div om,Nat.mul_add_mod,Nat.div_eq_of_lt hk,Nat.mod_eq_of_lt hk,Nat.add_zero]
theorem Za {α:Type} {s n:Nat} {c:α→List CV} {d:α} {xs:List α} (hn:xs.length=n) (v:α) (hs:0<s):∀j,j<(n+1)*s→Xq (lf s c d xs) (n*s) (ofL (c v)) j=lf s c d (xs++[v]) j:=fun j hj=>by
 subst hn
 unfold Xq
 by_cases h:j<xs.length*s
 ·rw [iP h]
  unfold lf
  have:j/s<xs.length:=(Nat.div_lt_iff_lt_mul hs).2 h
  rw [Lg,Lg,List.getElem?_append_left this]
 ·rw [iN h]
  obtain⟨k,rfl⟩:∃k,j=xs.length*s+k:=⟨j-xs.length*s,by omega⟩
  have hk:k<s:=by rw [Nat.succ_mul] at hj;omega
  rw [QY hk,Nat.add_sub_cancel_left,Lg,List.getElem?_append_right (Ac _),Nat.sub_self]
  rfl
theorem Qeq:∀(cs:List CV) (f:Nat→CV) (k j:Nat),(j<k∨k+cs.length≤j)→VL f k cs j=f j
 |[],f,k,j,_=>rfl
 |c::cs,f,k,j,h=>by
  simp only [VL,Lc] at h⊢
  rw [Qeq cs _ (k+1) j om,iN om]
theorem Qmu:∀(cs:List CV) (f:Nat→CV) (k j:Nat),j<cs.length→VL f k cs (k+j)=ofL cs j
 |[],f,k,j,h=>by simp at h
 |c::cs,f,k,0,h=>by
  simp only [VL,ofL,Nat.add_zero]
  rw [Qeq cs _ (k+1) k om,iP rfl]
 |c::cs,f,k,j+1,h=>by
  simp only [VL,ofL]
  rw [show k+(j+1)=(k+1)+j from by omega]
  exact Qmu cs _ (k+1) j (by simpa using h)
end
end
section
structure Al where
 i:Nat
 d:Nat
 rf:Nat→AV
 ob:XD
def Wk:List Al→(Nat→Bool)→(Nat→Nat)→Sl→Sl
 |[],_,_,σ=>σ
 |x::al,L,γ,σ=>if L x.i then(Wk al L γ σ).set x.d (x.rf (γ x.i)) else Wk al L γ σ
def extA:List Al→(Nat→Bool)→(Nat→Nat)→Qa
 |[],_,_=>[]
 |x::al,L,γ=>if L x.i then(γ x.i,x.ob)::extA al L γ else extA al L γ
theorem Qa0 {L L':Nat→Bool} {γ γ':Nat→Nat} {σ:Sl}:∀{al:List Al},(∀x∈al,L x.i=L' x.i∧γ x.i=γ' x.i)→Wk al L γ σ=Wk al L' γ' σ
 |[],_=>rfl
 |x::al,h=>by
  have h1:=h x (Lf ..)
  simp only [Wk,h1.1,h1.2,Qa0 (al:=al) fun y hy=>h y (Lm _ hy)]
theorem WX {L L':Nat→Bool} {γ γ':Nat→Nat}:∀{al:List Al},(∀x∈al,L x.i=L' x.i∧γ x.i=γ' x.i)→extA al L γ=extA al L' γ'
 |[],_=>rfl
 |x::al,h=>by
  have h1:=h x (Lf ..)
  simp only [extA,h1.1,h1.2,WX (al:=al) fun y hy=>h y (Lm _ hy)]
theorem Wl {L:Nat→Bool} {γ:Nat→Nat} {σ:Sl} {t:Nat}:∀{al:List Al},(∀x∈al,L x.i=true→x.d≠t)→(Wk al L γ σ).get t=σ.get t
 |[],_=>rfl
 |x::al,h=>by
  have ih:=Wl (L:=L) (γ:=γ) (σ:=σ) (t:=t) (al:=al) fun y hy=>h y (Lm _ hy)
  simp only [Wk]
  split
  ·rename_i hL
   rw [Sl.get_set,iN (h x (Lf ..) hL)];exact ih
  ·exact ih
theorem Qal {L:Nat→Bool} {γ:Nat→Nat} {σ:Sl} {x:Al}:∀{al:List Al},x∈al→L x.i=true→(∀y∈al,y.d=x.d→y=x)→(Wk al L γ σ).get x.d=x.rf (γ x.i)
 |[],hm,_,_=>by simp at hm
 |y::al,hm,hL,hu=>by
  by_cases e:y.d=x.d
  ·have:=hu y (Lf ..) e
   subst this
   simp only [Wk,hL,if_true,Sl.get_set]
  ·have hm':x∈al:=(Lb.1 hm).resolve_left (fun h=>e (by rw [h]))
   have ih:=Qal (γ:=γ) (σ:=σ) hm' hL fun z hz=>hu z (Lm _ hz)
   simp only [Wk]
   split
   ·rw [Sl.get_set,iN e];exact ih
   ·exact ih
theorem QiF {L:Nat→Bool} {γ:Nat→Nat} {x:Al} {g:Nat}:∀{al:List Al},x∈al→L x.i=false→(al.map (·.i)).Nodup→
  (extA al (fun j=>if j=x.i then true else L j) (fun j=>if j=x.i then g else γ j)).Perm ((g,x.ob)::extA al L γ)
 |[],hm,_,_=>by simp at hm
 |y::al,hm,hL,hn=>by
  simp only [Ld,List.nodup_cons] at hn
  by_cases e:y.i=x.i
  ·have hxy:x=y:=by
    rcases Lb.1 hm with h|h
    ·exact h
    ·exact absurd (List.mem_map.2 ⟨x,h,rfl⟩) (e▸hn.1)
   subst hxy
   have:extA al (fun j=>if j=x.i then true else L j) (fun j=>if j=x.i then g else γ j)=extA al L γ:=WX fun z hz=>by
    have hne:z.i≠x.i:=fun h=>hn.1 (List.mem_map.2 ⟨z,hz,h⟩)
    simp [hne]
   simp only [extA,if_true,hL,this]
   exact .refl _
  ·have hm':x∈al:=(Lb.1 hm).resolve_left (fun h=>e (by rw [h]))
   have ih:=QiF (L:=L) (γ:=γ) (g:=g) hm' hL hn.2
   simp only [extA,e,if_false]
   split
   ·exact(List.Perm.cons _ ih).trans (List.Perm.swap _ _ _)
   ·exact ih
theorem St.perm {N:Nat} {C:Vk} {σ:Sl} {h h':Qa} {a:Act} {w:World} (hp:h.Perm h') (s:St N C σ h a w):St N C σ h' a w:=by
 have hkk:∀b,b∈h.keys↔b∈h'.keys:=Qen hp
 have kp:YA (QH C h w) (QH C h' w) w w:=⟨fun t b hb=>⟨hb.1,hb.2.1,fun hm=>hb.2.2 ((hkk b).2 hm)⟩,fun _ _ _=>rfl,fun _ _ e=>e⟩
 exact⟨s.size,s.defers,fun t=>VK.keep kp (s.slots t),fun g o hm=>Y0.keep kp rfl (s.heap g o (hp.mem_iff.2 hm)),Qcu hp s.nodup,fun g hg=>s.keys g ((hkk g).2 hg),s.frame⟩
def Qdk (l:List Oper):Nat→Oper→Nat→Bool
 |0,o,j=>Qbo o j
 |k+1,o,j=>Qbo o j||o.after.any fun e=>Region.binds .any e&&(match l[e.on]? with|some p=>Qdk l k p j|none=>false)
def QiG (l:List Oper) (n:Nat):Bool:=l.zipIdx.all fun(o,i)=>decide (i<n)||(List.range i).all fun j=>Qdk l 6 o j
section
variable {E : Vl} {K : List It} {σ σ' : Sl} {h : Qa} {l : List Oper} {o : Oper}
theorem Kb {L:Nat→Bool} (hcl:∀i o,l[i]?=some o→L i=true→∀e∈o.after,Region.binds .any e=true→L e.on=true):∀(k:Nat) (o:Oper) (j:Nat),(∀e∈o.after,Region.binds .any e=true→L e.on=true)→Qdk l k o j=true→L j=true
 |0,o,j,hp,he=>by
  obtain⟨e,he',hon,hb⟩:=ZB he
  rw [←hon];exact hp e he' hb
 |k+1,o,j,hp,he=>by
  simp only [Qdk,Bool.or_eq_true] at he
  rcases he with he|he
  ·obtain⟨e,he',hon,hb⟩:=ZB he
   rw [←hon];exact hp e he' hb
  ·rw [Array.any_eq_true] at he
   obtain⟨i,hi,h1⟩:=he
   simp only [Ba] at h1
   obtain⟨hb,h2⟩:=h1
   have hl:=hp _ (Array.getElem_mem hi) hb
   split at h2
   ·rename_i p hpp
    exact Kb hcl k p j (hcl _ p hpp hl) h2
   ·cases h2
theorem Qer {n:Nat} (ht:QiG l n=true) {i:Nat} {o:Oper} (ho:l[i]?=some o) (hn:n≤i) {j:Nat} (hj:j<i):Qdk l 6 o j=true:=by
 unfold QiG at ht
 rw [List.all_eq_true] at ht
 have:=ht (o,i) (by rw [List.mem_zipIdx_iff_getElem?];exact ho)
 simp only [Bool.or_eq_true,Dq,List.all_eq_true,List.mem_range] at this
 exact this.resolve_left om j hj
theorem Qgi {n:Nat} (hok:JU l=true) (ht:QiG l n=true) {Q:Exit→Act→World→Prop}:∀(fuel i:Nat) (listed:Array Bool) (a:Act) (w:World),n≤i→i+fuel=l.length→listed.size=l.length→(∀j,j<l.length→listed.getD j false=decide (j<i))→
  wpList E.P l.toArray Q (l.drop i) a w→wpAny E.P .any l.toArray Q fuel listed a w
 |0,i,listed,a,w,_,hf,hs,hl,k=>by
  have:l.drop i=[]:=List.drop_eq_nil_of_le om
  rw [this] at k
  refine⟨?_,k⟩
  rw [List.eq_nil_iff_forall_not_mem]
  intro j hj
  obtain⟨h1,h2,_⟩:=(YD hs).1 hj
  rw [hl j h1] at h2
  simp at h2
  omega
 |fuel+1,i,listed,a,w,hn,hf,hs,hl,k=>by
  have hi:i<l.length:=by omega
  have ho:l[i]?=some l[i]:=Li hi
  have hcl:∀q o,l[q]?=some o→listed.getD q false=true→∀e∈o.after,Region.binds .any e=true→listed.getD e.on false=true:=fun q o hq hlq e he hb=>by
   have hql:q<l.length:=(List.getElem?_eq_some_iff.1 hq).1
   rw [hl q hql] at hlq
   have:=Wf hok hq he hb
   simp only [Dq] at hlq
   rw [hl e.on om];simp;omega
  have hready:i∈Region.ready .any l.toArray listed:=(YD hs).2 ⟨hi,by rw [hl i hi];simp,fun o ho' e he hb=>by
   have:=Wf hok ho' he hb
   rw [hl e.on om];simpa using this⟩
  refine⟨fun e=>by rw [e] at hready;simp at hready,fun j hj=> ?_⟩
  obtain⟨h1,h2,h3⟩:=(YD hs).1 hj
  have hji:j=i:=by
   rw [hl j h1] at h2
   simp only [decide_eq_false_iff_not,Nat.not_lt] at h2
   rcases Nat.lt_or_ge i j with hlt|hge
   ·have:=Kb (L:=fun q=>listed.getD q false) hcl 6 _ i (h3 _ (Li h1)) (Qer ht (Li h1) om hlt)
    simp only [hl i hi] at this
    simp at this
   ·omega
  subst hji
  rw [List.drop_eq_getElem_cons hi] at k
  unfold wpOp
  rw [show l.toArray[j]?=some l[j] from by simp [hi]]
  have hstep:∀a w,wpList E.P l.toArray Q (l.drop (j+1)) a w→wpAny E.P .any l.toArray Q fuel (listed.setIfInBounds j true) a w:=fun a w k'=>
   Qgi hok ht fuel (j+1) _ a w om om (by simpa using hs) (fun q hq=>by
    rw [getD_set om,hl q hq]
    by_cases h:q=j
    ·subst h;simp
    ·rw [iN h];congr 1;simp;omega) k'
  simp only [wpList] at k
  simp only
  split
  ·rename_i hw
   rw [iP hw] at k
   exact k.imp (Oper.wp_mono hstep) id
  ·rename_i hw
   rw [iN hw] at k
   exact hstep _ _ k
def Vt (E:Vl) (h:Qa) (l:List Oper) (σ:Sl) (o:Oper) (r:AV):Prop:=
 Qw E.N o.dst=true∧∀(σ':Sl) (ext:Qa) (a:Act) (w:World) (Q:Exit→Act→World→Prop),(∀t∈looks l o,σ'.get t=σ.get t)→St E.N E.C σ' (ext++h) a w→
  if Region.wanted o (yielded l.toArray a.tmps) then o.wp E.P a w (fun a' w'=>St E.N E.C (σ'.setO o.dst r) (ext++h) a' w') Q else r=.tup []
def Ov (E:Vl) (h:Qa) (l:List Oper) (σ:Sl) (o:Oper) (rf:Nat→AV) (ob:XD):Prop:=
 Qw E.N o.dst=true∧∀(σ':Sl) (ext:Qa) (a:Act) (w:World) (Q:Exit→Act→World→Prop),(∀t∈looks l o,σ'.get t=σ.get t)→St E.N E.C σ' (ext++h) a w→
  Region.wanted o (yielded l.toArray a.tmps)=true∧o.wp E.P a w (fun a' w'=>∃g,St E.N E.C (σ'.setO o.dst (rf g)) ((g,ob)::(ext++h)) a' w') Q
inductive DrX (E:Vl) (h:Qa) (l:List Oper):Nat→List (Oper×AV)→Sl→Sl→List Al→Prop
 |nil {i:Nat} {σ:Sl}:DrX E h l i [] σ σ []
 |calm {i:Nat} {o:Oper} {r:AV} {ps:List (Oper×AV)} {σ σ':Sl} {al:List Al}:Vt E h l σ o r→DrX E h l (i+1) ps (σ.setO o.dst r) σ' al→DrX E h l i ((o,r)::ps) σ σ' al
 |new {i d:Nat} {o:Oper} {rf:Nat→AV} {ob:XD} {ps:List (Oper×AV)} {σ σ':Sl} {al:List Al}:o.dst=some d→Ov E h l σ o rf ob→DrX E h l (i+1) ps (σ.setO o.dst (.c .any)) σ' al→DrX E h l i ((o,.c .any)::ps) σ σ' (⟨i,d,rf,ob⟩::al)
theorem Qgj:∀(ps:List (Oper×AV)) (n:Nat) (σ:Sl),sigL ps ((List.range n).map (fun _=>false)) σ=σ:=by
 intro ps
 induction ps with
 |nil=>intro n σ;simp [sigL]
 |cons p ps ih2=>
  intro n σ
  cases n with
  |zero=>simp [sigL]
  |succ n=>
   obtain⟨q,r⟩:=p
   simp only [List.range_succ_eq_map,Ld,List.map_map,sigL]
   exact ih2 n σ
theorem DrX.at_ {i:Nat} {ps:List (Oper×AV)} {al:List Al} (d:DrX E h l i ps σ σ' al):∀(j:Nat) (o:Oper) (r:AV),ps[j]?=some (o,r)→
  (Vt E h l (sigL ps ((List.range ps.length).map fun q=>decide (q<j)) σ) o r∧∀x∈al,x.i≠i+j)∨
  (r=.c .any∧∃x∈al,x.i=i+j∧o.dst=some x.d∧Ov E h l (sigL ps ((List.range ps.length).map fun q=>decide (q<j)) σ) o x.rf x.ob):=by
 have low:∀{i:Nat} {ps:List (Oper×AV)} {σ σ':Sl} {al:List Al},DrX E h l i ps σ σ' al→∀x∈al,i≤x.i:=by
  intro i ps σ σ' al d
  induction d with
  |nil=>intro x hx;simp at hx
  |calm _ _ ih=>intro x hx;have:=ih x hx;omega
  |new _ _ _ ih=>
   intro x hx
   rcases Lb.1 hx with rfl|hx
   ·exact Ac _
   ·have:=ih x hx;omega
 induction d with
 |nil=>intro j o r hp;simp at hp
 | @calm i o' r' ps σ σ' al hc hd ih=>
   intro j o r hp
   simp only [Lc,List.range_succ_eq_map,Ld,List.map_map,sigL]
   cases j with
   |zero=>
    simp only [List.getElem?_cons_zero,Aa,Ab] at hp
    obtain⟨rfl,rfl⟩:=hp
    left
    have e:((fun q=>decide (q<0))∘Nat.succ)=fun _=>false:=by funext q;simp [Function.comp]
    simp only [Nat.lt_irrefl,decide_false,e]
    exact⟨by rw [Qgj];exact hc,fun x hx=>by have:=low hd x hx;omega⟩
   |succ j=>
    have:=ih j o r (by simpa using hp)
    have e:((fun q=>decide (q<j+1))∘Nat.succ)=fun q=>decide (q<j):=by funext q;simp [Function.comp]
    rw [e]
    rw [show i+(j+1)=i+1+j from by omega]
    simpa using this
 | @new i d o' rf ob ps σ σ' al hod hn hd ih=>
   intro j o r hp
   simp only [Lc,List.range_succ_eq_map,Ld,List.map_map,sigL]
   cases j with
   |zero=>
    simp only [List.getElem?_cons_zero,Aa,Ab] at hp
    obtain⟨rfl,rfl⟩:=hp
    right
    have e:((fun q=>decide (q<0))∘Nat.succ)=fun _=>false:=by funext q;simp [Function.comp]
    simp only [Nat.lt_irrefl,decide_false,e]
    refine⟨trivial,_,Lf ..,rfl,hod,?_⟩
    rw [Qgj];exact hn
   |succ j=>
    have:=ih j o r (by simpa using hp)
    have e:((fun q=>decide (q<j+1))∘Nat.succ)=fun q=>decide (q<j):=by funext q;simp [Function.comp]
    rw [e]
    rw [show i+(j+1)=i+1+j from by omega]
    rcases this with ⟨h1,h2⟩|⟨h1,x,hx,h2⟩
    ·left
     refine⟨by simpa using h1,fun x hx=> ?_⟩
     rcases Lb.1 hx with rfl|hx
     ·simp only;omega
     ·exact h2 x hx
    ·right
     exact⟨h1,x,Lm _ hx,by simpa using h2⟩
theorem DrX.end_ {i:Nat} {ps:List (Oper×AV)} {al:List Al} (d:DrX E h l i ps σ σ' al):σ'=sigL ps ((List.range ps.length).map fun _=>true) σ:=by
 induction d with
 |nil=>rfl
 |calm _ _ ih=>
  simp only [Lc,List.range_succ_eq_map,Ld,List.map_map,sigL,if_true]
  exact ih
 |new _ _ _ ih=>
  simp only [Lc,List.range_succ_eq_map,Ld,List.map_map,sigL,if_true]
  exact ih
theorem DrX.al_ {i:Nat} {ps:List (Oper×AV)} {al:List Al} (d:DrX E h l i ps σ σ' al):(∀x∈al,i≤x.i∧x.i<i+ps.length∧∃p,ps[x.i-i]?=some p∧p.1.dst=some x.d)∧(al.map (·.i)).Nodup:=by
 induction d with
 |nil=>exact⟨fun x hx=>by simp at hx,by simp⟩
 | @calm i o' r' ps σ σ' al hc hd ih=>
   refine⟨fun x hx=> ?_,ih.2⟩
   obtain⟨h1,h2,p,h3,h4⟩:=ih.1 x hx
   refine⟨by omega,by simp only [Lc];omega,p,?_,h4⟩
   rw [show x.i-i=(x.i-(i+1))+1 from by omega]
   simpa using h3
 | @new i d o' rf ob ps σ σ' al hod hn hd ih=>
   refine⟨fun x hx=> ?_,?_⟩
   ·rcases Lb.1 hx with rfl|hx
    ·exact⟨Ac _,by simp,(o',.c .any),by simp,hod⟩
    ·obtain⟨h1,h2,p,h3,h4⟩:=ih.1 x hx
     refine⟨by omega,by simp only [Lc];omega,p,?_,h4⟩
     rw [show x.i-i=(x.i-(i+1))+1 from by omega]
     simpa using h3
   ·simp only [Ld,List.nodup_cons]
    refine⟨fun hm=> ?_,ih.2⟩
    obtain⟨x,hx,he⟩:=List.mem_map.1 hm
    have:=(ih.1 x hx).1
    omega
theorem Qol {n:Nat} {ps:List (Oper×AV)} {al:List Al} (hok:JU l=true) (ht:QiG l n=true) (hn:n≤l.length) (hps:ps.map (·.1)=l.take n) (d:DrX E h l 0 ps σ σ' al) (hnl:∀x∈al,∀i o,i<n→l[i]?=some o→x.d∉looks l o) {Q:Exit→Act→World→Prop}
  (k:∀γ a w,St E.N E.C (Wk al (fun _=>true) γ σ') (extA al (fun _=>true) γ++h) a w→wpList E.P l.toArray Q (l.drop n) a w):∀(u:Nat) (listed:Array Bool) (γ:Nat→Nat) (a:Act) (w:World),unl (fun j=>listed.getD j false) n=u→listed.size=l.length→
  (∀i o,l[i]?=some o→listed.getD i false=true→∀e∈o.after,Region.binds .any e=true→listed.getD e.on false=true)→(∀j,n≤j→j<l.length→listed.getD j false=false)→
  St E.N E.C (Wk al (fun j=>listed.getD j false) γ (sigL ps (KX n listed) σ)) (extA al (fun j=>listed.getD j false) γ++h) a w→wpAny E.P .any l.toArray Q (u+(l.length-n)) listed a w:=by
 have hpl:ps.length=n:=by have:=congrArg List.length hps;simp at this;omega
 have hpi:∀(j:Nat) (p:Oper×AV),ps[j]?=some p→l[j]?=some p.1∧j<n:=by
  intro j p hp
  have hj:j<ps.length:=(List.getElem?_eq_some_iff.1 hp).1
  have h1:(ps.map (·.1))[j]?=some p.1:=by simp [hp]
  rw [hps,List.getElem?_take] at h1
  split at h1
  ·exact⟨h1,by omega⟩
  ·cases h1
 obtain⟨hal,hnd⟩:=d.al_
 have halp:∀x∈al,x.i<n∧∃p,ps[x.i]?=some p∧p.1.dst=some x.d:=fun x hx=>by
  obtain⟨_,h2,p,h3,h4⟩:=hal x hx
  exact⟨by omega,p,by simpa using h3,h4⟩
 have hone:∀x∈al,∀(j:Nat) (p:Oper×AV),ps[j]?=some p→p.1.dst=some x.d→j=x.i:=fun x hx j p hp hd=>by
  obtain⟨hxn,q,hq,hqd⟩:=halp x hx
  rcases Nat.decEq j x.i with hne|he
  ·exact absurd hd ((Z5 hok (hpi j p hp).1 (hpi x.i q hq).1 hqd).2 (fun e=>hne e.symm))
  ·exact he
 have huniq:∀x∈al,∀y∈al,y.d=x.d→y=x:=fun x hx y hy e=>by
  obtain⟨_,q,hq,hqd⟩:=halp y hy
  have hi:=hone x hx y.i q hq (by rw [hqd,e])
  have:∀(l:List Al),(l.map (·.i)).Nodup→x∈l→y∈l→y=x:=by
   intro l
   induction l with
   |nil=>intro _ hm;simp at hm
   |cons z l ih=>
    intro hnd h1 h2
    simp only [Ld,List.nodup_cons] at hnd
    rcases Lb.1 h1 with e1|m1<;>rcases Lb.1 h2 with e2|m2
    ·rw [e1,e2]
    ·exact absurd (List.mem_map.2 ⟨y,m2,by rw [hi,e1]⟩) hnd.1
    ·exact absurd (List.mem_map.2 ⟨x,m1,by rw [←hi,e2]⟩) hnd.1
    ·exact ih hnd.2 m1 m2
  exact this al hnd hx hy
 intro u
 induction u with
 |zero=>
  intro listed γ a w hu hs _ htl st
  have hall:=Qbp n hu
  rw [Nz]
  refine Qgi hok ht (l.length-n) n listed a w (Ac _) om hs (fun j hj=> ?_) (k γ a w ?_)
  ·rcases Nat.lt_or_ge j n with h1|h1
   ·rw [hall j h1];simp [h1]
   ·rw [htl j h1 hj];simp;omega
  ·have e:KX n listed=(List.range ps.length).map fun _=>true:=by
    unfold KX
    rw [hpl]
    exact List.map_congr_left fun j hj=>hall j (by simpa using hj)
   have hc:∀x∈al,(fun j=>listed.getD j false) x.i=(fun _=>true) x.i∧γ x.i=γ x.i:=fun x hx=>⟨hall x.i (halp x hx).1,rfl⟩
   rw [d.end_,←e,←Qa0 (L:=fun j=>listed.getD j false) (L':=fun _=>true) (γ:=γ) (γ':=γ) hc,←WX (L:=fun j=>listed.getD j false) (L':=fun _=>true) (γ:=γ) (γ':=γ) hc]
   exact st
 |succ u ih=>
  intro listed γ a w hu hs hcl htl st
  rw [show u+1+(l.length-n)=(u+(l.length-n))+1 from by omega]
  obtain⟨j0,hj0,hj1,hj2⟩:=QdM (L:=fun j=>listed.getD j false) n om
  have hready:j0∈Region.ready .any l.toArray listed:=(YD hs).2 ⟨by omega,hj1,fun o ho e he hb=>hj2 _ (Wf hok ho he hb)⟩
  refine⟨fun e=>by rw [e] at hready;simp at hready,fun i hi=> ?_⟩
  obtain⟨h1,h2,h3⟩:=(YD hs).1 hi
  have ho:l[i]?=some l[i]:=Li h1
  have hin:i<n:=by
   rcases Nat.lt_or_ge i n with hlt|hge
   ·exact hlt
   ·have:=Kb (L:=fun q=>listed.getD q false) hcl 6 _ j0 (h3 _ ho) (Qer ht ho hge (show j0<i from by omega))
    simp only [hj1] at this
    cases this
  have hpi':ps[i]?=some ps[i]:=Li om
  obtain⟨hp1,_⟩:=hpi i _ hpi'
  rw [ho] at hp1
  injection hp1 with hp1
  have hat:=d.at_ i ps[i].1 ps[i].2 hpi'
  rw [Nz] at hat
  have hsame:∀t∈looks l ps[i].1,(Wk al (fun j=>listed.getD j false) γ (sigL ps (KX n listed) σ)).get t=(sigL ps ((List.range ps.length).map fun j=>decide (j<i)) σ).get t:=by
   intro t htl'
   rw [Wl fun x hx _ e=>hnl x hx i l[i] hin ho (by rw [hp1,e];exact htl')]
   by_cases hex:∃(j:Nat) (p:Oper×AV),ps[j]?=some p∧j<i∧p.1.dst=some t
   ·obtain⟨j,p,hp,hji,hdt⟩:=hex
    obtain⟨hlp,hjn⟩:=hpi j p hp
    have huniq:∀(j':Nat) (p':Oper×AV),j'≠j→ps[j']?=some p'→p'.1.dst≠some t:=fun j' p' hne hp'=>
     (Z5 hok (hpi j' p' hp').1 hlp hdt).2 (fun e=>hne e.symm)
    obtain⟨e,he,hon,hb⟩:=ZB (((Z5 hok (by rw [←hp1];exact ho) hlp hdt).1 htl').1 hji)
    have hlj:listed.getD j false=true:=by rw [←hon];exact h3 _ ho e (by rw [hp1];exact he) hb
    rw [XQ ps _ σ t j p.1 p.2 hp (by rw [X8 hjn,hlj]) hdt huniq,
     XQ ps _ σ t j p.1 p.2 hp (by simp [show j<ps.length from by omega,hji]) hdt huniq]
   ·rw [XC ps _ σ t (fun j p hp hb hdt=> ?_),XC ps _ σ t (fun j p hp hb hdt=> ?_)]
    ·have hjl:j<ps.length:=(List.getElem?_eq_some_iff.1 hp).1
     simp [hjl] at hb
     exact hex ⟨j,p,hp,hb,hdt⟩
    ·obtain⟨hlp,hjn⟩:=hpi j p hp
     rw [X8 hjn] at hb
     injection hb with hb
     rcases Nat.lt_trichotomy j i with hlt|heq|hgt
     ·exact hex ⟨j,p,hp,hlt,hdt⟩
     ·subst heq;rw [h2] at hb;cases hb
     ·obtain⟨e,he,hon,hb'⟩:=ZB (((Z5 hok (by rw [←hp1];exact ho) hlp hdt).1 htl').2 hgt)
      have:=hcl j _ hlp hb e he hb'
      rw [hon,h2] at this
      cases this
  have his:i<listed.size:=by omega
  have hsig:∀t,(sigL ps (KX n (listed.setIfInBounds i true)) σ).get t=((sigL ps (KX n listed) σ).setO ps[i].1.dst ps[i].2).get t:=by
   intro t
   rw [YR]
   by_cases hdt:ps[i].1.dst=some t
   ·rw [iP hdt]
    have huniq:∀(j':Nat) (p':Oper×AV),j'≠i→ps[j']?=some p'→p'.1.dst≠some t:=fun j' p' hne hp'=>
     (Z5 hok (hpi j' p' hp').1 (hpi i _ hpi').1 hdt).2 (fun e=>hne e.symm)
    exact XQ ps _ σ t i ps[i].1 ps[i].2 hpi' (by rw [X8 hin,getD_set his,iP rfl]) hdt huniq
   ·rw [iN hdt]
    by_cases hex:∃(j:Nat) (p:Oper×AV),ps[j]?=some p∧listed.getD j false=true∧p.1.dst=some t
    ·obtain⟨j,p,hp,hlj,hdt'⟩:=hex
     obtain⟨hlp,hjn⟩:=hpi j p hp
     have huniq:∀(j':Nat) (p':Oper×AV),j'≠j→ps[j']?=some p'→p'.1.dst≠some t:=fun j' p' hne hp'=>
      (Z5 hok (hpi j' p' hp').1 hlp hdt').2 (fun e=>hne e.symm)
     rw [XQ ps _ σ t j p.1 p.2 hp (by rw [X8 hjn,getD_set his];split<;>first|rfl|rw [hlj]) hdt' huniq,
      XQ ps _ σ t j p.1 p.2 hp (by rw [X8 hjn,hlj]) hdt' huniq]
    ·rw [XC ps _ σ t (fun j p hp hb hdt'=> ?_),XC ps _ σ t (fun j p hp hb hdt'=> ?_)]
     ·obtain⟨_,hjn⟩:=hpi j p hp
      rw [X8 hjn] at hb
      injection hb with hb
      exact hex ⟨j,p,hp,hb,hdt'⟩
     ·obtain⟨_,hjn⟩:=hpi j p hp
      rw [X8 hjn,getD_set his] at hb
      injection hb with hb
      split at hb
      ·rename_i hji;subst hji;rw [hpi'] at hp;injection hp with hp;subst hp;exact hdt hdt'
      ·exact hex ⟨j,p,hp,hb,hdt'⟩
  have hL:(fun j=>(listed.setIfInBounds i true).getD j false)=fun j=>if j=i then true else listed.getD j false:=funext fun j=>getD_set his
  have hgo:∀(γ':Nat→Nat) a' w',St E.N E.C (Wk al (fun j=>if j=i then true else listed.getD j false) γ' (sigL ps (KX n (listed.setIfInBounds i true)) σ)) (extA al (fun j=>if j=i then true else listed.getD j false) γ'++h) a' w'→wpAny E.P .any l.toArray Q (u+(l.length-n)) (listed.setIfInBounds i true) a' w':=by
   intro γ' a' w' st'
   refine ih _ γ' a' w' ?_ (by simpa using hs) (fun q o hq hlq e he hb=> ?_) (fun j hj hjl=> ?_) (by rw [hL];exact st')
   ·rw [hL]
    have:=QdN (L:=fun j=>listed.getD j false) n hin h2
    omega
   ·rw [getD_set his] at hlq⊢
    by_cases hqi:q=i
    ·subst hqi
     by_cases hei:e.on=q
     ·rw [iP hei]
     ·rw [iN hei];exact h3 o hq e he hb
    ·rw [iN hqi] at hlq
     have:=hcl q o hq hlq e he hb
     by_cases hei:e.on=i
     ·rw [iP hei]
     ·rw [iN hei];exact this
   ·rw [getD_set his,iN om];exact htl j hj hjl
  unfold wpOp
  rw [show l.toArray[i]?=some l[i] from by simp [h1]]
  simp only
  rw [hp1]
  rcases hat with ⟨⟨hd,hc⟩,hno⟩|⟨hany,x,hx,hxi,hxd,hd,hc⟩
  ·
   have hnext:∀a' w',St E.N E.C ((Wk al (fun j=>listed.getD j false) γ (sigL ps (KX n listed) σ)).setO ps[i].1.dst ps[i].2) (extA al (fun j=>listed.getD j false) γ++h) a' w'→wpAny E.P .any l.toArray Q (u+(l.length-n)) (listed.setIfInBounds i true) a' w':=by
    intro a' w' st'
    refine hgo γ a' w' ?_
    have hcg:∀x∈al,(fun j=>if j=i then true else listed.getD j false) x.i=(fun j=>listed.getD j false) x.i∧γ x.i=γ x.i:=fun x hx=>⟨by simp [hno x hx],rfl⟩
    rw [WX (L:=fun j=>if j=i then true else listed.getD j false) (L':=fun j=>listed.getD j false) (γ:=γ) (γ':=γ) hcg,Qa0 (L:=fun j=>if j=i then true else listed.getD j false) (L':=fun j=>listed.getD j false) (γ:=γ) (γ':=γ) hcg]
    refine St.weak st' (fun t=>.inr ?_) (Lr _)
    by_cases hex:∃x∈al,listed.getD x.i false=true∧x.d=t
    ·obtain⟨x,hx,hlx,rfl⟩:=hex
     rw [Qal hx hlx (huniq x hx),YR,iN (fun e=>hno x hx (hone x hx i _ hpi' e).symm),Qal hx hlx (huniq x hx)]
    ·have hout:∀x∈al,(fun j=>listed.getD j false) x.i=true→x.d≠t:=fun x hx hlx e=>hex ⟨x,hx,hlx,e⟩
     rw [Wl hout,hsig,YR,YR,Wl hout]
   have hcalm:=hc _ _ a w Q hsame st
   split
   ·rename_i hw
    rw [iP hw] at hcalm
    exact .inl (Oper.wp_mono hnext hcalm)
   ·rename_i hw
    rw [iN hw] at hcalm
    have st2:=st.put hd (r:=.tup []) (v:=undef) ⟨[],rfl,trivial⟩
    rw [←hcalm] at st2
    exact hnext _ _ st2
  ·
   obtain⟨hw,hnew⟩:=hc _ _ a w Q hsame st
   rw [iP hw]
   refine .inl (Oper.wp_mono ?_ hnew)
   rintro a' w' ⟨g,st'⟩
   refine hgo (fun j=>if j=i then g else γ j) a' w' ?_
   have hli:listed.getD x.i false=false:=by rw [hxi];exact h2
   have hperm:=QiF (L:=fun j=>listed.getD j false) (γ:=γ) (g:=g) hx hli hnd
   rw [hxi] at hperm
   refine St.perm (h:=((g,x.ob)::(extA al (fun j=>listed.getD j false) γ++h))) ?_ ?_
   ·rw [←Lq]
    exact(hperm.append_right h).symm
   refine St.weak st' (fun t=>.inr ?_) (Lr _)
   by_cases hxt:x.d=t
   ·subst hxt
    have:=Qal (L:=fun j=>if j=i then true else listed.getD j false) (γ:=fun j=>if j=i then g else γ j) (σ:=sigL ps (KX n (listed.setIfInBounds i true)) σ) hx (by simp [hxi]) (huniq x hx)
    rw [this,YR,iP hxd]
    simp [hxi]
   ·rw [YR,iN (fun e=>hxt (by rw [hxd] at e;injection e))]
    by_cases hex:∃y∈al,listed.getD y.i false=true∧y.d=t
    ·obtain⟨y,hy,hly,rfl⟩:=hex
     have hyi:y.i≠i:=fun e=>by rw [e,h2] at hly;cases hly
     have e1:=Qal (L:=fun j=>if j=i then true else listed.getD j false) (γ:=fun j=>if j=i then g else γ j) (σ:=sigL ps (KX n (listed.setIfInBounds i true)) σ) hy (by simp [hyi,hly]) (huniq y hy)
     rw [e1,Qal hy hly (huniq y hy)]
     simp [hyi]
    ·have hout:∀y∈al,(fun j=>listed.getD j false) y.i=true→y.d≠t:=fun y hy hly e=>hex ⟨y,hy,hly,e⟩
     have hout':∀y∈al,(fun j=>if j=i then true else listed.getD j false) y.i=true→y.d≠t:=fun y hy hly e=>by
      by_cases hyi:y.i=i
      ·have:y=x:=by
        obtain⟨_,q,hq,hqd⟩:=halp y hy
        rw [hyi,hpi'] at hq
        injection hq with hq
        rw [←hq,hxd] at hqd
        injection hqd with hqd
        exact huniq x hx y hy hqd.symm
       exact hxt (by rw [←this];exact e)
      ·simp only [hyi,if_false] at hly
       exact hout y hy hly e
     rw [Wl hout',hsig,YR,iN (fun e=>hxt (by rw [hxd] at e;injection e)),Wl hout]
end
end
section
section
variable {E : Vl} {K : List It} {σ σ' : Sl} {h : Qa} {l : List Oper} {o : Oper}
theorem Vt.pure2 {nw:Bool} {q:Prop} {r:AV} (hw:Qx l σ o=some true) (hb:WV E.P nw h (ev σ) o.op=some (q,r)) (hq:q) (hd:Qw E.N o.dst=true):Vt E h l σ o r:=by
 refine⟨hd,fun σ' ext a w Q hs s=> ?_⟩
 rw [iP (s.wanted ((Xh hs).trans hw))]
 obtain⟨v,hrun,hr⟩:=WW (fun _=>rfl) hb hq (QH E.C (ext++h) w) w a.eval QH.mono' (fun x hx=>by rw [←XI hx hs];exact QK s x) (fun g ob hm=>s.heap g ob (List.mem_append_right _ hm))
 unfold Oper.wp
 rw [hrun o rfl]
 exact s.put hd hr
theorem Vt.skip (hw:Qx l σ o=some false) (hd:Qw E.N o.dst=true):Vt E h l σ o (.tup []):=by
 refine⟨hd,fun σ' ext a w Q hs s=> ?_⟩
 rw [iN (by rw [s.wanted ((Xh hs).trans hw)];simp)]
theorem Qa.get_ext:∀{ext h:Qa} {g:Nat} {ob:XD},(ext++h).keys.Nodup→h.get g=some ob→Qa.get (ext++h) g=some ob
 |[],h,g,ob,_,hg=>hg
 |(g0,o0)::ext,h,g,ob,hn,hg=>by
  simp only [Lq,Qa.keys,Ld,List.nodup_cons] at hn
  have hne:¬g0=g:=fun e=>hn.1 (by
   rw [e]
   exact List.mem_map.2 ⟨(g,ob),List.mem_append_right _ (Qa.get_mem hg),rfl⟩)
  simp only [Lq,Qa.get,iN hne]
  exact Qa.get_ext hn.2 hg
theorem LeC.ext {ext h:Qa} (hn:(ext++h).keys.Nodup) {x y:CV} (le:LeC h x y):LeC (ext++h) x y:=by
 induction le with
 |refl x=>exact .refl x
 |any x=>exact .any x
 |nils=>exact .nils
 |row ht _ ih=>exact .row ht ih
 |osl hg hm _ ih=>exact .osl (Qa.get_ext hn hg) hm ih
 |ifc _ ih=>exact .ifc ih
theorem LeL.ext {ext h:Qa} (hn:(ext++h).keys.Nodup):∀{xs ys:List CV},LeL h xs ys→LeL (ext++h) xs ys
 |[],[],_=>trivial
 |_::_,_::_,le=>⟨le.1.ext hn,LeL.ext hn le.2⟩
 |[],_::_,le=>le.elim
 |_::_,[],le=>le.elim
theorem Us.ext {ext h:Qa} (hn:(ext++h).keys.Nodup):∀{xs ys:List AV},Us h xs ys→Us (ext++h) xs ys
 |[],[],_=>trivial
 |_::_,_::_,le=>⟨by
   rcases le.1 with l|l
   ·exact .c (l.ext hn)
   ·exact .agg (LeL.ext hn l),Us.ext hn le.2⟩
 |[],_::_,le=>le.elim
 |_::_,[],le=>le.elim
theorem Vt.call {f:FuncId} {xs:List Operand} {ts:Array TypeId} {args:List AV} {r:AV} (hf:Fa E.P f args r) (hop:o.op=.call {callee:=.value (.func f),args:=xs.toArray,argTypes:=ts}) (hw:Qx l σ o=some true) (hd:Qw E.N o.dst=true)
  (le:Us h (xs.map (ev σ)) args):Vt E h l σ o r:=by
 refine⟨hd,fun σ' ext a w Q hs s=> ?_⟩
 rw [iP (s.wanted ((Xh hs).trans hw))]
 have he:xs.map (ev σ')=xs.map (ev σ):=List.map_congr_left fun x hx=>XI (by rw [hop];simp [Op.operands,Call.operands,hx]) hs
 unfold Oper.wp
 have hrun:(execOp a.eval o).run E.P w=.ok (.enter f (xs.map a.eval).toArray) w:=by
  simp only [execOp,hop,resolve,Act.eval,Deferred.ofValue,invoke,Sem.run_bind]
  have:=hf.1.run (#[]++(Array.map a.eval xs.toArray)++ #[]) w
  simp only [Sem.run_pure,Result.andThen_ok]
  rw [show((xs.map a.eval).toArray)=(#[]++(Array.map a.eval xs.toArray)++ #[]) from by simp]
  exact this
 rw [hrun]
 show Calls _ _ _ _ _
 refine(hf.use s (by rw [he];exact le.ext s.nodup)).mono ?_
 rintro e w' ⟨v,rfl,hr,hfr⟩
 exact(s.later hfr).put hd hr
theorem Vt.of_run {r:AV} (hw:Qx l σ o=some true) (hd:Qw E.N o.dst=true)
  (hrun:∀σ' ext a w,(∀x∈o.op.operands,ev σ' x=ev σ x)→St E.N E.C σ' (ext++h) a w→∃v w',(execOp a.eval o).run E.P w=.ok (.value v) w'∧Fr (fun _=>False) w w'∧VK (QH E.C (ext++h) w') w' r v):Vt E h l σ o r:=by
 refine⟨hd,fun σ' ext a w Q hs s=> ?_⟩
 rw [iP (s.wanted ((Xh hs).trans hw))]
 obtain⟨v,w',hr,hfr,hrep⟩:=hrun σ' ext a w (fun x hx=>XI hx hs) s
 unfold Oper.wp
 rw [hr]
 exact(s.later hfr).put hd hrep
theorem Vt.empty {t e size bytes:Nat} (hop:o.op=.buildSlice t 0 #[]) (hw:Qx l σ o=some true) (hd:Qw E.N o.dst=true) (ht:QR E.P t=some (e,size,bytes)):Vt E h l σ o (.c .nils):=by
 refine Vt.of_run hw hd fun σ' ext a w _ s=> ?_
 obtain⟨hu,inf,hi,hsz,_⟩:=Xg ht
 refine⟨.slice (some ⟨w.heap.size,0,none⟩) 0 0,w.alloc (.cells #[] e),?_,Fr.alloc _ _ _,_,rfl⟩
 simp only [execOp,hop,Instr.buildSlice,Sem.run_bind,run_underlying hu,Result.andThen_ok,sizeOf,typeInfo,Sem.run_pure]
 simp only [run_program,hi,Result.andThen_ok,Sem.run_pure,hsz,Nat.zero_mul]
 rw [iN om,iP trivial]
 simp only [Sem.run_bind,Sem.run_pure,Result.andThen_ok]
 have hf:Instr.fill (fun i=>some (i*size,size)) (Array.map (fun x=>(#[]:Array Value)[x%(#[]:Array Value).size]!) (Array.range 0)) (Array.map (fun x:Nat×Operand=>(x.1,a.eval x.2)) #[]).toList=some #[]:=by simp [Instr.fill]
 rw [hf]
 rfl
theorem Vt.copy {t e size bytes k:Nat} {z:List CV} {f2:Nat→CV} {s x:Operand} {cx:CV} (hop:o.op=.call {callee:=.builtin .append,args:= #[s,x],argTypes:= #[t,t]}) (hw:Qx l σ o=some true) (hd:Qw E.N o.dst=true)
  (ht:QR E.P t=some (e,size,bytes)) (hz:Qj E.P e=some z) (hzl:z.length=size) (hs0:0<size) (hs:ev σ s=.c .nils) (hx:ev σ x=.c cx) (hsrc:Src h size cx k f2)
  (h63:k≤maxLen) (hby:k*bytes≤140737488355328):Vt E h l σ o (.c (.row true size k f2)):=by
 refine Vt.of_run hw hd fun σ' ext a w he st=> ?_
 have r1:=QK st s
 have r2:=QK st x
 rw [he s (by rw [hop];simp [Op.operands,Call.operands]),hs] at r1
 rw [he x (by rw [hop];simp [Op.operands,Call.operands]),hx] at r2
 obtain⟨A0,hv1⟩:=r1
 obtain⟨A,d,hv2,hA⟩:=hsrc.cells (fun g ob hm=>st.heap g ob (List.mem_append_right _ hm)) r2
 rcases Nat.eq_zero_or_pos k with hk|hk
 ·subst hk
  refine⟨.slice A0 0 0,w,KW hop ?_,Fr.refl _ _,A0,0,rfl,Ac _,fun h0=>by simp at h0⟩
  rw [hv1,hv2]
  exact Oo ht (Ac _)
 ·obtain⟨ad,rfl,hc⟩:=hA (Nat.mul_pos hk hs0)
  obtain⟨news,hnl,hnews⟩:=KP (k*size) hc
  obtain⟨c',w',cs',hrun,hb',hcs',hle',hcm',hnew,hfr⟩:=Qem (P:=E.P) (ty:=o.type) (d:=d) (A:=A0) ht hz hzl hnl (fun j u e=>(hnews j u e).1) hk h63 hby
  have hlt:w.heap.size<w'.heap.size:=(Array.getElem?_eq_some_iff.1 hb').1
  have hnk:w.heap.size∉(ext++h).keys:=fun hm=>Nat.lt_irrefl _ (st.klt hm)
  have kp:YA (QH E.C (ext++h) w) (QH E.C (ext++h) w') w w':=
   ⟨fun t b hb=>⟨hb.1,Ae hb.2.1 hfr.size,hb.2.2⟩,fun t b hb=>hfr.block b hb.2.1 (fun x=>x),hfr.has⟩
  refine⟨_,w',KW hop (by rw [hv1,hv2];exact hrun),hfr,_,c',rfl,hle',fun _=>⟨_,rfl,⟨.inr st.frame.size,hlt,hnk⟩,fun j hjl=> ?_⟩⟩
  have hl:j<news.length:=by omega
  refine⟨news[j],?_,(hnews _ _ (Li hl)).2.keep kp⟩
  rw [ZP,Zf hb',Nz,hnew j hjl]
  exact Li hl
theorem Ov.of_run {rf:Nat→AV} {ob:XD} (hw:Qx l σ o=some true) (hd:Qw E.N o.dst=true)
  (hrun:∀σ' ext a w,(∀x∈o.op.operands,ev σ' x=ev σ x)→St E.N E.C σ' (ext++h) a w→∃v w',(execOp a.eval o).run E.P w=.ok (.value v) w'∧Fr (fun _=>False) w w'∧w.heap.size<w'.heap.size∧
   Y0 (QH E.C ((w.heap.size,ob)::(ext++h)) w') w' w.heap.size ob∧VK (QH E.C ((w.heap.size,ob)::(ext++h)) w') w' (rf w.heap.size) v):Ov E h l σ o rf ob:=by
 refine⟨hd,fun σ' ext a w Q hs s=>⟨s.wanted ((Xh hs).trans hw),?_⟩⟩
 obtain⟨v,w',hr,hfr,hlt,ho,hrep⟩:=hrun σ' ext a w (fun x hx=>XI hx hs) s
 unfold Oper.wp
 rw [hr]
 exact⟨w.heap.size,(s.new rfl hfr hlt ho).put hd hrep⟩
theorem Ov.make {t e size bytes n c:Nat} {z:List CV} {xl xc:Operand} {kl kc:IntKind} {nl nc:Int} (hop:o.op=.makeSlice t xl xc) (hw:Qx l σ o=some true) (hd:Qw E.N o.dst=true) (ht:QR E.P t=some (e,size,bytes))
  (hz:Qj E.P e=some z) (hzl:z.length=size) (hs0:0<size) (hl:ev σ xl=.c (.int kl nl)) (hc:ev σ xc=.c (.int kc nc)) (hn:nl=n) (hcn:nc=c) (hnc:n≤c) (hby:bytes*c≤281474976710656) (hc63:c≤9223372036854775807):
  Ov E h l σ o (fun g=>.c (.osl g size 0 n)) (.cells e (c*size) (fun j=>ofL z (j%size))):=by
 refine Ov.of_run hw hd fun σ' ext a w he s=> ?_
 obtain⟨hu,inf,hi,hsz,hbb⟩:=Xg ht
 obtain⟨i',zv,hi',hzv,rfl⟩:=YI hz
 rw [hi] at hi'
 injection hi' with hi'
 subst hi'
 have h1:a.eval xl=.int kl n:=by have:=QK s xl;rw [he xl (by rw [hop];simp [Op.operands]),hl,hn] at this;exact this
 have h2:a.eval xc=.int kc c:=by have:=QK s xc;rw [he xc (by rw [hop];simp [Op.operands]),hc,hcn] at this;exact this
 have hb':(inf.bytes:Int)*(c:Int)≤281474976710656:=by
  have h:((inf.bytes*c:Nat):Int)≤281474976710656:=by rw [hbb];omega
  rwa [Int.natCast_mul] at h
 have hr:=run_make (P:=E.P) w t e inf zv hu hi hzv kl kc n c om om hb' om
 simp only [Int.toNat_natCast] at hr
 refine⟨.slice (some ⟨w.heap.size,0,none⟩) n c,w.alloc (.cells (madeCells zv.cells (c*inf.size)) e),?_,Fr.alloc _ _ _,by simp,?_,?_⟩
 ·simp only [execOp,hop,h1,h2,Sem.run_bind,hr,Result.andThen_ok]
  rfl
 ·refine⟨_,heap_alloc_new w _,by rw [size_madeCells,hsz];exact Ac _,fun j hj=> ?_⟩
  have hzs:zv.cells.size=size:=by simpa using hzl
  have hlt:j%size<zv.cells.size:=by rw [hzs];exact Nat.mod_lt _ hs0
  refine⟨zv.cells[j%size],?_,?_⟩
  ·have hlt':j%size<zv.cells.size:=hlt
   simp only [madeCells,hsz,hzs]
   simp [hj,hlt',getElem!_pos]
  ·exact Qdi zv.cells.toList (j%size) (by simpa using hlt) _ _
 ·exact⟨c,rfl,hnc,by unfold maxLen;omega,_,e,⟨_,heap_alloc_new w _⟩,by rw [size_madeCells,hsz];simp⟩
def Qhk (l:List Oper) (n d:Nat):Bool:=(l.take n).all fun o=> !(looks l o).contains d
theorem QiH {n d:Nat} (hn:Qhk l n d=true) (i:Nat) (o:Oper) (hi:i<n) (ho:l[i]?=some o):d∉looks l o:=fun hm=>by
 unfold Qhk at hn
 rw [List.all_eq_true] at hn
 have:o∈l.take n:=List.mem_of_getElem? (i:=i) (by rw [List.getElem?_take,iP hi];exact ho)
 have:=hn o this
 simp [hm] at this
def DrB (E:Vl) (h:Qa) (l:List Oper) (K:List It) (M i k:Nat) (rest:List Oper) (σ:Sl) (pre:List Al):Prop:=
 ∃ps σ' al,ps.map (·.1)=rest.take k∧DrX E h l i ps σ σ' al∧(∀x∈al,Qhk l M x.d=true)∧∀γ,aw E (.ops l (rest.drop k)::K) (Wk (pre++al) (fun _=>true) γ σ') (extA (pre++al) (fun _=>true) γ++h)
theorem Qwj {id:Nat} (n:Nat) (hm:E.P.follows .mixedOrders=true) (hok:(JU l&&QiG l n&&decide (n≤l.length))=true) (k:DrB E h l K n 0 n l σ []):aw E (.code (.region id l.toArray true)::K) σ h:=fun a w s=>by
 obtain⟨ps,σ',al,hps,d,hnl,k⟩:=k
 simp only [Ba,Dq] at hok
 refine wp_region_any hm ?_
 have s':=s.later (Fr.drew (fun _=>False) w (w.drawn+1))
 have e0:∀j,(Array.replicate l.length false).getD j false=false:=fun j=>by
  rw [Array.getD_eq_getD_getElem?]
  simp only [Array.getElem?_replicate]
  split<;>rfl
 have hun:∀m,unl (fun j=>(Array.replicate l.length false).getD j false) m=m:=by
  intro m
  induction m with
  |zero=>rfl
  |succ m ih=>rw [unl,ih,e0];rfl
 have hadd0:∀(L:Nat→Bool) (al:List Al) (σ:Sl) (γ:Nat→Nat),(∀j,L j=false)→Wk al L γ σ=σ∧extA al L γ=[]:=by
  intro L al σ γ hL
  induction al with
  |nil=>exact⟨rfl,rfl⟩
  |cons x al ih=>simp only [Wk,extA,hL,Bool.false_eq_true,if_false];exact ih
 have hadd:=fun(al:List Al) (σ:Sl) (γ:Nat→Nat)=>hadd0 (fun j=>(Array.replicate l.length false).getD j false) al σ γ e0
 have:=Qol (Q:=exW E K) hok.1.1 hok.1.2 hok.2 hps d (fun x hx i o hi ho=>QiH (hnl x hx) i o hi ho) (fun γ a w st=>k γ a w st) n (Array.replicate l.length false) (fun _=>0) a {w with drawn:=w.drawn+1} (hun n) (by simp) (fun i o _ hl=>by rw [e0] at hl;cases hl) (fun j _ _=>e0 j) (by
  rw [(hadd al _ _).1,(hadd al σ _).2,Ln]
  refine s'.weak (fun t=>.inr ?_) (Lr _)
  rw [XC ps _ σ t (fun j p hp hb=> ?_)]
  exfalso
  have hjl:j<ps.length:=(List.getElem?_eq_some_iff.1 hp).1
  have hpl:ps.length=n:=by have:=congrArg List.length hps;simp at this;omega
  rw [X8 om,e0] at hb
  cases hb)
 rw [show n+(l.length-n)=l.length from by omega] at this
 simpa using this
theorem Qtq {M i:Nat} {rest:List Oper} {pre:List Al} (k:∀γ,aw E (.ops l rest::K) (Wk pre (fun _=>true) γ σ) (extA pre (fun _=>true) γ++h)):DrB E h l K M i 0 rest σ pre:=
 ⟨[],σ,[],by simp,.nil,by simp,fun γ=>by simpa using k γ⟩
theorem Qbx {M i n:Nat} {rest:List Oper} {pre:List Al} {r:AV} (hc:Vt E h l σ o r) (k:DrB E h l K M (i+1) n rest (σ.setO o.dst r) pre):DrB E h l K M i (n+1) (o::rest) σ pre:=by
 obtain⟨ps,σ',al,h1,h2,h3,h4⟩:=k
 exact⟨(o,r)::ps,σ',al,by simp [h1],.calm hc h2,h3,by simpa using h4⟩
theorem Qtr {M i n d:Nat} {rest:List Oper} {pre:List Al} {rf:Nat→AV} {ob:XD} (hd:o.dst=some d) (hc:Ov E h l σ o rf ob) (hn:Qhk l M d=true) (k:DrB E h l K M (i+1) n rest (σ.set d (.c .any)) (pre++[⟨i,d,rf,ob⟩])):DrB E h l K M i (n+1) (o::rest) σ pre:=by
 obtain⟨ps,σ',al,h1,h2,h3,h4⟩:=k
 refine⟨(o,.c .any)::ps,σ',⟨i,d,rf,ob⟩::al,by simp [h1],.new hd hc (by rw [hd];exact h2),fun x hx=> ?_,fun γ=> ?_⟩
 ·rcases Lb.1 hx with rfl|hx
  ·exact hn
  ·exact h3 x hx
 ·have:=h4 γ
  simpa using this
theorem Qqr {M i n:Nat} {rest:List Oper} {pre:List Al} (nw:Bool) (hd:Qw E.N o.dst=true) (k:∀R:Option (Prop×Sl)→Prop,(∀q σ',q→DrB E h l K M (i+1) n rest σ' pre→R (some (q,σ')))→R (Zt E.P nw h l o σ)):DrB E h l K M i (n+1) (o::rest) σ pre:=by
 have:=k (fun x=>x=Zt E.P nw h l o σ→DrB E h l K M i (n+1) (o::rest) σ pre) (fun q σ' hq ha e=>by
  unfold Zt at e
  split at e
  ·rename_i hw
   split at e
   ·rename_i q1 r hp
    simp only [Aa,Ab] at e
    obtain⟨rfl,rfl⟩:=e
    exact Qbx (Vt.pure2 hw hp hq hd) ha
   ·cases e
  ·rename_i hw
   simp only [Aa,Ab] at e
   obtain⟨rfl,rfl⟩:=e
   exact Qbx (Vt.skip hw hd) ha
  ·cases e)
 exact this rfl
end
attribute [go_sem] Wk extA
end
section
section
variable {E : Vl} {K : List It} {σ σ' : Sl} {h : Qa} {l : List Oper} {o : Oper}
theorem QiI {P:Program} {o:Oper} {a:Act} {w:World} {K K':Act→World→Prop} {Q Q':Exit→Act→World→Prop} (h:∀a w,K a w→K' a w) (hq:∀e a w,e≠.normal→Q e a w→Q' e a w) (hh:o.wp P a w K Q):o.wp P a w K' Q':=by
 have hl:LetsOut Q→LetsOut Q':=fun⟨a,w,x⟩=>⟨a,w,hq _ _ _ (by simp) x⟩
 unfold Oper.wp at*
 generalize (execOp a.eval o).run P w=r at*
 cases r with
 |ok n w'=>
  cases n<;>simp only [Oper.upon] at hh⊢ <;>
   first
    |exact h _ _ hh
    |exact Calls.mono hh (fun e w'' he=>by cases e<;>first|exact h _ _ he|exact hl he|exact hq _ _ _ (by simp) he)
    |exact Rows.mono hh (fun _ _ he=>h _ _ he)
    |exact hh
 |halt x w'=>cases x<;>simp only [Oper.upon] at hh⊢ <;>first|exact hq _ _ _ (by simp) hh|exact hh|exact hl hh
end
end
section
section
variable {E : Vl} {K : List It} {σ σ' : Sl} {h : Qa} {l : List Oper} {o : Oper}
theorem Ov.alloc {t:TypeId} {z:List CV} (hop:o.op=.alloc t) (hw:Qx l σ o=some true) (hd:Qw E.N o.dst=true) (hz:Qj E.P t=some z):Ov E h l σ o (fun g=>.c (.optr g 0)) (.cells t z.length (ofL z)):=by
 refine Ov.of_run hw hd fun σ' ext a w he s=> ?_
 obtain⟨i,v,hi,hv,rfl⟩:=YI hz
 refine⟨.pointer (some ⟨w.heap.size,0,none⟩),w.alloc (.cells v.cells.toList.toArray t),?_,Fr.alloc _ _ _,by simp,Wc (OK _ _ _),rfl⟩
 simp only [execOp,hop,Instr.alloc,zeroValue,typeInfo,newVar,newRow,Sem.run_bind]
 simp [hi,hv]
end
end
section
def Kp (FP h:Qa):Prop:=∀p∈FP,p∈h
structure UF (l:List Oper) (res:Nat→AV) (σ0:Sl) (seen:Nat→Prop) (σ:Sl):Prop where
 yes:∀j o d,seen j→l[j]?=some o→o.dst=some d→σ.get d=res j
 no:∀t,(∀j o,seen j→l[j]?=some o→o.dst≠some t)→σ.get t=σ0.get t
def QkV (o:Oper) (seen:List Nat):Bool:=o.after.all fun e=> !Region.binds .any e||seen.contains e.on
theorem Qes {o:Oper} {seen:List Nat} (h:QkV o seen=true) {e:Edge} (he:e∈o.after) (hb:Region.binds .any e=true):e.on∈seen:=by
 unfold QkV at h
 rw [Array.all_eq_true'] at h
 have:=h e he
 rw [hb] at this
 simpa using this
def QaE (l:List Oper):List Nat→List Nat→List Nat→List (Nat×Nat)→Bool
 |_,_,_,[]=>true
 |seen,pn,fr,(i,b)::cs=>(match l[i]? with
  |none=>false
  |some o=> !(seen.contains i)&&QkV o seen&&(pn.all fun p=>Qdk l 12 o p)&&(b !=2||seen.all fun p=>fr.contains p||Qdk l 12 o p))&&QaE l (i::seen) (if b=0∨b=3 then pn else i::pn) (if b=3 then i::fr else fr) cs
section
variable {E : Vl} {K : List It} {l : List Oper} {FP : Qa} {σ σ' : Sl} {h : Qa} {o : Oper}
def Flt (E:Vl) (FP:Qa) (l:List Oper) (σ:Sl) (o:Oper) (r:AV):Prop:=Qw E.N o.dst=true∧∀h,Kp FP h→Ko E h l σ o r
def Pin (E:Vl) (l:List Oper) (σ:Sl) (h:Qa) (o:Oper) (R:AV→Qa→Prop):Prop:=
 ∀(σ':Sl) (K:List It),(∀t∈looks l o,σ'.get t=σ.get t)→aw E (.ops l [o]::.stop (fun σ2 h2=>∃r,R r h2∧σ2=σ'.setO o.dst r)::K) σ' h
inductive CW (E:Vl) (l:List Oper) (K:List It):Qa→List (Nat×Nat)→Sl→Qa→Prop
 |nil {FP:Qa} {σ:Sl} {h:Qa}:aw E K σ h→CW E l K FP [] σ h
 |flt {FP:Qa} {i:Nat} {cs:List (Nat×Nat)} {o:Oper} {r:AV} {σ:Sl} {h:Qa}:l[i]?=some o→Flt E FP l σ o r→CW E l K FP cs (σ.setO o.dst r) h→CW E l K FP ((i,0)::cs) σ h
 |fre {FP:Qa} {i:Nat} {cs:List (Nat×Nat)} {o:Oper} {r:AV} {σ:Sl} {h:Qa}:l[i]?=some o→Flt E [] l σ o r→CW E l K FP cs (σ.setO o.dst r) h→CW E l K FP ((i,3)::cs) σ h
 |pin {FP FP':Qa} {i m:Nat} {cs:List (Nat×Nat)} {o:Oper} {R:AV→Qa→Prop} {σ:Sl} {h:Qa}:l[i]?=some o→(m=2∨m=1∧FP'=FP)→Pin E l σ h o R→(∀r h',R r h'→Kp FP' h')→(∀r h',R r h'→CW E l K FP' cs (σ.setO o.dst r) h')→CW E l K FP ((i,m)::cs) σ h
theorem OS {cs:List (Nat×Nat)}:∀{seen pn fr:List Nat},QaE l seen pn fr cs=true→∀i∈cs.map (·.1),i∉seen:=by
 induction cs with
 |nil=>intro seen pn fr _ i hi;cases hi
 |cons c cs ih=>
  intro seen pn fr hg i hi
  obtain⟨c,b⟩:=c
  simp only [QaE,Ba] at hg
  obtain⟨h1,h2⟩:=hg
  simp only [Ld,Lb] at hi
  rcases hi with rfl|hi
  ·split at h1
   ·cases h1
   ·simp only [Ba,Bool.not_eq_true'] at h1
    have:=h1.1.1.1
    simpa using this
  ·have:=ih h2 i hi
   exact fun hm=>this (Lm _ hm)
theorem Qqs {p:Nat} {cs:List (Nat×Nat)}:∀{seen pn fr:List Nat},QaE l seen pn fr cs=true→p∈pn→∀i∈cs.map (·.1),∃o,l[i]?=some o∧Qdk l 12 o p=true:=by
 induction cs with
 |nil=>intro seen pn fr _ _ i hi;cases hi
 |cons c cs ih=>
  intro seen pn fr hg hp i hi
  obtain⟨c,b⟩:=c
  simp only [QaE,Ba] at hg
  obtain⟨h1,h2⟩:=hg
  simp only [Ld,Lb] at hi
  rcases hi with rfl|hi
  ·split at h1
   ·cases h1
   ·rename_i o ho
    simp only [Ba] at h1
    exact⟨o,ho,List.all_eq_true.1 h1.1.2 p hp⟩
  ·refine ih h2 ?_ i hi
   split
   ·exact hp
   ·exact Lm _ hp
structure DInv (E:Vl) (l:List Oper) (K:List It) (FP:Qa) (σ0:Sl) (listed:Array Bool) (σa:Sl) (h:Qa) (seen pn fr:List Nat) (cs:List (Nat×Nat)) (σc:Sl) (res:Nat→AV):Prop where
 size:listed.size=l.length
 hcl:∀i o,l[i]?=some o→listed.getD i false=true→∀e∈o.after,Region.binds .any e=true→listed.getD e.on false=true
 go:QaE l seen pn fr cs=true
 frs:∀i∈fr,i∈seen
 all:∀i,i<l.length→i∈seen∨i∈cs.map (·.1)
 cw:CW E l K FP cs σc h
 fp:Kp FP h
 closed:∀j∈seen,∀o,l[j]?=some o→∀e∈o.after,Region.binds .any e=true→e.on∈seen
 aft:UF l res σ0 (· ∈seen) σc
 pend:∀i∈seen,listed.getD i false=false→∃(seen':List Nat) (σi:Sl) (o:Oper),l[i]?=some o∧(∀j∈seen',j∈seen)∧i∉seen'∧(∀j∈seen',∀o,l[j]?=some o→∀e∈o.after,Region.binds .any e=true→e.on∈seen')∧
  (∀e∈o.after,Region.binds .any e=true→e.on∈seen')∧UF l res σ0 (· ∈seen') σi∧Flt E FP l σi o (res i)∧(i∈fr→Flt E [] l σi o (res i))
 pins:∀p∈pn,listed.getD p false=true
 act:UF l res σ0 (fun j=>listed.getD j false=true) σa
 sub:∀i,i<l.length→listed.getD i false=true→i∈seen
def Qhl (l:List Oper):Bool:=l.zipIdx.all fun(o,i)=>l.zipIdx.all fun(p,j)=>match p.dst with
 |none=>true
 |some d=>(!(looks l o).contains d||(if j<i then Qbo o j else if i<j then Qbo p i else true))&&(j==i||o.dst !=some d)
theorem Qts (h:JU l=true):Qhl l=true:=by
 unfold JU at h
 unfold Qhl
 rw [List.all_eq_true] at h⊢
 intro x hx
 have:=h x hx
 obtain⟨o,i⟩:=x
 simp only [Qix,Ba] at this
 exact this.2
theorem Qcx (hok:Qhl l=true) {i j d:Nat} {o p:Oper} (ho:l[i]?=some o) (hp:l[j]?=some p) (hd:p.dst=some d):
  (d∈looks l o→(j<i→Qbo o j=true)∧(i<j→Qbo p i=true))∧(j≠i→o.dst≠some d):=by
 unfold Qhl at hok
 rw [List.all_eq_true] at hok
 have:=hok (o,i) (by rw [List.mem_zipIdx_iff_getElem?];exact ho)
 simp only [List.all_eq_true] at this
 have h2:=this (p,j) (by rw [List.mem_zipIdx_iff_getElem?];exact hp)
 simp only [hd,Ba,Bool.or_eq_true,Bool.not_eq_true',List.contains_eq_mem,decide_eq_false_iff_not,beq_iff_eq,bne_iff_ne] at h2
 refine⟨fun hm=> ?_,fun hne=>h2.2.resolve_left hne⟩
 have h3:=h2.1.resolve_left (fun hn=>hn hm)
 exact⟨fun hlt=>by rw [iP hlt] at h3;exact h3,fun hlt=>by rw [iN om,iP hlt] at h3;exact h3⟩
theorem Qtt {L:Nat→Bool} {ρ:Nat→Nat} {n:Nat}:∀(r j:Nat),ρ j=r→j<n→L j=false→∃j0,j0<n∧L j0=false∧∀q,q<n→ρ q<ρ j0→L q=true:=by
 intro r
 induction r using Nat.strongRecOn with
 |_ r ih=>
  intro j hr hj hL
  by_cases h:∃q,q<n∧ρ q<ρ j∧L q=false
  ·obtain⟨q,q1,q2,q3⟩:=h
   exact ih (ρ q) om q rfl q1 q3
  ·refine⟨j,hj,hL,fun q q1 q2=> ?_⟩
   cases hq:L q with
   |true=>rfl
   |false=>exact absurd ⟨q,q1,q2,hq⟩ h
def QkW (l:List Oper):Prop:=∃ρ:Nat→Nat,∀i o,l[i]?=some o→∀e∈o.after,Region.binds .any e=true→e.on<l.length∧ρ e.on<ρ i
theorem Qom (h:JU l=true):QkW l:=⟨id,fun i o ho e he hb=>by
 have h1:=Wf h ho he hb
 have h2:=(List.getElem?_eq_some_iff.1 ho).1
 exact⟨by omega,h1⟩⟩
theorem Qa1 (hok:Qhl l=true) {res:Nat→AV} {σ0 σa σi:Sl} {listed:Array Bool} {seen:List Nat} {i:Nat} (ho:l[i]?=some o) (hcl:∀i o,l[i]?=some o→listed.getD i false=true→∀e∈o.after,Region.binds .any e=true→listed.getD e.on false=true)
  (hni:i∉seen) (hli:listed.getD i false=false) (hcs:∀j∈seen,∀o,l[j]?=some o→∀e∈o.after,Region.binds .any e=true→e.on∈seen) (hds:∀e∈o.after,Region.binds .any e=true→e.on∈seen)
  (hrd:∀e∈o.after,Region.binds .any e=true→listed.getD e.on false=true) (a:UF l res σ0 (fun j=>listed.getD j false=true) σa) (b:UF l res σ0 (· ∈seen) σi):∀t∈looks l o,σa.get t=σi.get t:=by
 intro t ht
 by_cases hex:∃j p,j∈seen∧l[j]?=some p∧p.dst=some t
 ·obtain⟨j,p,hj,hp,hd⟩:=hex
  rw [b.yes j p t hj hp hd]
  have hne:j≠i:=fun e=>hni (e▸hj)
  obtain⟨e1,e2⟩:=(Qcx hok ho hp hd).1 ht
  rcases Nat.lt_or_gt_of_ne hne with hlt|hgt
  ·obtain⟨e,he,hon,hb⟩:=ZB (e1 hlt)
   exact a.yes j p t (by rw [←hon];exact hrd e he hb) hp hd
  ·obtain⟨e,he,hon,hb⟩:=ZB (e2 hgt)
   exact absurd (by rw [←hon];exact hcs j hj p hp e he hb) hni
 ·rw [b.no t (fun j p hj hp hd=>hex ⟨j,p,hj,hp,hd⟩)]
  refine a.no t fun j p hj hp hd=> ?_
  have hj':listed.getD j false=true:=hj
  have hne:j≠i:=fun e=>by subst e;rw [hli] at hj';cases hj'
  obtain⟨e1,e2⟩:=(Qcx hok ho hp hd).1 ht
  rcases Nat.lt_or_gt_of_ne hne with hlt|hgt
  ·obtain⟨e,he,hon,hb⟩:=ZB (e1 hlt)
   exact hex ⟨j,p,by rw [←hon];exact hds e he hb,hp,hd⟩
  ·obtain⟨e,he,hon,hb⟩:=ZB (e2 hgt)
   have:=hcl j p hp hj' e he hb
   rw [hon,hli] at this
   cases this
theorem UF.set (hok:Qhl l=true) {res:Nat→AV} {σ0:Sl} {seen:Nat→Prop} {i:Nat} {r:AV} (a:UF l res σ0 seen σ) (ho:l[i]?=some o) (hn:¬seen i) (hr:res i=r):UF l res σ0 (fun j=>j=i∨seen j) (σ.setO o.dst r):=by
 refine⟨fun j p d hj hp hd=> ?_,fun t ht=> ?_⟩
 ·rw [YR]
  rcases hj with rfl|hj
  ·rw [ho] at hp
   injection hp with hp
   subst hp
   rw [iP hd,hr]
  ·have hne:j≠i:=fun e=>hn (e▸hj)
   rw [iN ((Qcx hok ho hp hd).2 hne)]
   exact a.yes j p d hj hp hd
 ·rw [YR,iN (ht i o (.inl rfl) ho)]
  exact a.no t fun j p hj hp=>ht j p (.inr hj) hp
theorem UF.congr {res res':Nat→AV} {σ0:Sl} {seen seen':Nat→Prop} (a:UF l res σ0 seen σ) (h1:∀j,j<l.length→(seen' j↔seen j)) (h2:∀j,seen j→res' j=res j):UF l res' σ0 seen' σ:=by
 have hlt:∀{j:Nat} {o:Oper},l[j]?=some o→j<l.length:=fun h=>(List.getElem?_eq_some_iff.1 h).1
 refine⟨fun j p d hj hp hd=> ?_,fun t ht=>a.no t fun j p hj hp=>ht j p ((h1 j (hlt hp)).2 hj) hp⟩
 have hj':=(h1 j (hlt hp)).1 hj
 rw [h2 j hj']
 exact a.yes j p d hj' hp hd
theorem Flt.wide {r:AV} (hf:Flt E [] l σ o r):Flt E FP l σ o r:=⟨hf.1,fun h _=>hf.2 h (fun _ hm=>absurd hm Lj)⟩
theorem DInv.adv (hok:Qhl l=true) {σ0 σa σc:Sl} {listed:Array Bool} {seen pn:List Nat} {i:Nat} {cs:List (Nat×Nat)} {res:Nat→AV} {fr:List Nat} {b:Nat} (hb:b=0∨b=3) (v:DInv E l K FP σ0 listed σa h seen pn fr ((i,b)::cs) σc res):
  ∃fr' σc' res',DInv E l K FP σ0 listed σa h (i::seen) pn fr' cs σc' res':=by
 obtain⟨size,hcl,go,frs,all,cw,fp,closed,aft,pend,pins,act,sub⟩:=v
 have hni:i∉seen:=OS go i (by simp)
 have hfr:i∉fr:=fun hm=>hni (frs i hm)
 obtain⟨o,r,ho,hf,hf3,k⟩:∃o r,l[i]?=some o∧Flt E FP l σc o r∧(b=3→Flt E [] l σc o r)∧CW E l K FP cs (σc.setO o.dst r) h:=by
  cases cw with
  |pin _ hm=>exact absurd hm om
  |flt ho hf k=>exact⟨_,_,ho,hf,fun e=>by omega,k⟩
  |fre ho hf k=>exact⟨_,_,ho,hf.wide,fun _=>hf,k⟩
 have hlt:i<l.length:=(List.getElem?_eq_some_iff.1 ho).1
 have hli:listed.getD i false=false:=by
  cases hb:listed.getD i false with
  |false=>rfl
  |true=>exact absurd (sub i hlt hb) hni
 simp only [QaE,ho,Ba] at go
 obtain⟨⟨⟨⟨_,g2⟩,_⟩,_⟩,g4⟩:=go
 rw [iP hb] at g4
 let res':Nat→AV:=fun j=>if j=i then r else res j
 have hres:∀j,j≠i→res' j=res j:=fun j hj=>iN hj
 have hresi:res' i=r:=iP rfl
 have hdeps:∀e∈o.after,Region.binds .any e=true→e.on∈seen:=fun e he hb=>Qes g2 he hb
 have hclosed':∀j∈i::seen,∀o,l[j]?=some o→∀e∈o.after,Region.binds .any e=true→e.on∈i::seen:=fun j hj p hp e he hb=>by
  rcases Lb.1 hj with rfl|hj
  ·rw [ho] at hp;injection hp with hp;subst hp
   exact Lm _ (hdeps e he hb)
  ·exact Lm _ (closed j hj p hp e he hb)
 have aft':UF l res' σ0 (· ∈seen) σc:=aft.congr (fun _ _=>Iff.rfl) fun j hj=>hres j fun e=>hni (e▸hj)
 have hfr':∀j∈(if b=3 then i::fr else fr),(j=i∧b=3)∨j∈fr:=fun j hj=>by
  split at hj
  ·rename_i e
   rcases Lb.1 hj with h|h
   ·exact .inl ⟨h,e⟩
   ·exact .inr h
  ·exact .inr hj
 refine⟨if b=3 then i::fr else fr,σc.setO o.dst r,res',size,hcl,g4,fun j hj=> ?_,fun j hj=> ?_,k,fp,hclosed',?_,fun j hj hl=> ?_,pins,?_,fun j hj hl=>Lm _ (sub j hj hl)⟩
 ·rcases hfr' j hj with ⟨h,_⟩|h
  ·rw [h];exact Lf ..
  ·exact Lm _ (frs j h)
 ·rcases all j hj with hm|hm
  ·exact .inl (Lm _ hm)
  ·simp only [Ld,Lb] at hm
   rcases hm with rfl|hm
   ·exact .inl (Lf ..)
   ·exact .inr hm
 ·exact(aft'.set hok ho hni hresi).congr (fun j _=>Lb) fun _ _=>rfl
 ·rcases Lb.1 hj with rfl|hj
  ·exact⟨seen,σc,o,ho,fun q hq=>Lm _ hq,hni,closed,hdeps,aft',by rw [hresi];exact hf,fun hm=>by
    rw [hresi]
    rcases hfr' _ hm with ⟨_,e⟩|e
    ·exact hf3 e
    ·exact absurd e hfr⟩
  ·obtain⟨seen',σi,p,hp,h1,h2,h3,h4,h5,h6,h7⟩:=pend j hj hl
   exact⟨seen',σi,p,hp,fun q hq=>Lm _ (h1 q hq),h2,h3,h4,h5.congr (fun _ _=>Iff.rfl) fun q hq=>hres q fun e=>hni (e▸h1 q hq),by rw [hres j fun e=>hni (e▸hj)];exact h6,fun hm=>by
    rw [hres j fun e=>hni (e▸hj)]
    rcases hfr' _ hm with ⟨e,_⟩|e
    ·exact absurd (e▸hj) hni
    ·exact h7 e⟩
 ·exact act.congr (fun _ _=>Iff.rfl) fun j hj=>hres j fun e=>by subst e;rw [hli] at hj;cases hj
theorem Qcy {listed:Array Bool} {i:Nat} (hs:listed.size=l.length) (hi:i<l.length) {o:Oper} (ho:l[i]?=some o) (hcl:∀i o,l[i]?=some o→listed.getD i false=true→∀e∈o.after,Region.binds .any e=true→listed.getD e.on false=true)
  (hrd:∀e∈o.after,Region.binds .any e=true→listed.getD e.on false=true):∀j p,l[j]?=some p→(listed.setIfInBounds i true).getD j false=true→∀e∈p.after,Region.binds .any e=true→(listed.setIfInBounds i true).getD e.on false=true:=by
 intro j p hp hj e he hb
 rw [getD_set om] at hj⊢
 by_cases hei:e.on=i
 ·rw [iP hei]
 ·rw [iN hei]
  by_cases hji:j=i
  ·subst hji
   rw [ho] at hp;injection hp with hp;subst hp
   exact hrd e he hb
  ·rw [iN hji] at hj
   exact hcl j p hp hj e he hb
theorem Qmv (hok:Qhl l=true) (hrk:QkW l) {σ0:Sl}:∀(u:Nat) (FP:Qa) (listed:Array Bool) (σa:Sl) (h:Qa) (a:Act) (w:World),unl (fun j=>listed.getD j false) l.length=u→(∃seen pn fr cs σc res,DInv E l K FP σ0 listed σa h seen pn fr cs σc res)→St E.N E.C σa h a w→wpAny E.P .any l.toArray (exW E K) u listed a w:=by
 intro u
 induction u with
 |zero=>
  rintro FP listed σa h a w hu ⟨seen,pn,fr,cs,σc,res,v⟩ st
  have hall:=Qbp l.length hu
  refine⟨?_,?_⟩
  ·rw [List.eq_nil_iff_forall_not_mem]
   intro j hj
   obtain⟨h1,h2,_⟩:=(YD v.size).1 hj
   rw [hall j h1] at h2
   cases h2
  ·obtain⟨size,hcl,go,frs,all,cw,fp,closed,aft,pend,pins,act,sub⟩:=v
   have hcs:cs=[]:=by
    cases cs with
    |nil=>rfl
    |cons c cs=>
     have hni:=OS go c.1 (by simp)
     have:c.1<l.length:=by
      obtain⟨c,b⟩:=c
      simp only [QaE,Ba] at go
      have g1:=go.1
      split at g1
      ·cases g1
      ·rename_i o ho
       exact(List.getElem?_eq_some_iff.1 ho).1
     exact absurd (sub _ this (hall _ this)) hni
   subst hcs
   cases cw with
   |nil k=>
   refine k a w (st.weak (fun t=>.inr ?_) (Lr _))
   by_cases hex:∃j p,j<l.length∧l[j]?=some p∧p.dst=some t
   ·obtain⟨j,p,hj,hp,hd⟩:=hex
    rw [aft.yes j p t (sub j hj (hall j hj)) hp hd,act.yes j p t (hall j hj) hp hd]
   ·have hno:∀j (p:Oper),l[j]?=some p→p.dst≠some t:=fun j p hp hd=>hex ⟨j,p,(List.getElem?_eq_some_iff.1 hp).1,hp,hd⟩
    rw [aft.no t fun j p _ hp=>hno j p hp,act.no t fun j p _ hp=>hno j p hp]
 |succ u ih=>
  rintro FP listed σa h a w hu ⟨seen,pn,fr,cs,σc,res,v⟩ st
  obtain⟨ρ,hρ⟩:=hrk
  obtain⟨j1,hj3,hj4,_⟩:=QdM (L:=fun j=>listed.getD j false) l.length om
  obtain⟨j0,hj0,hj1,hj2⟩:=Qtt (L:=fun j=>listed.getD j false) (ρ:=ρ) _ j1 rfl hj3 hj4
  have hready:j0∈Region.ready .any l.toArray listed:=(YD v.size).2 ⟨hj0,hj1,fun o ho e he hb=>hj2 _ (hρ _ o ho e he hb).1 (hρ _ o ho e he hb).2⟩
  refine⟨fun e=>by rw [e] at hready;simp at hready,fun i hi=> ?_⟩
  obtain⟨h1,h2,h3⟩:=(YD v.size).1 hi
  have ho:l[i]?=some l[i]:=Li h1
  have hrd:=h3 _ ho
  have hun:unl (fun j=>(listed.setIfInBounds i true).getD j false) l.length=u:=by
   have hfun:(fun j=>(listed.setIfInBounds i true).getD j false)=fun j=>if j=i then true else listed.getD j false:=funext fun j=>getD_set (by rw [v.size];exact h1)
   rw [hfun]
   have:=QdN (L:=fun j=>listed.getD j false) l.length h1 h2
   omega
  clear hready hj0 hj1 hj2 j0
  have key:∀(n:Nat) (seen pn fr:List Nat) (cs:List (Nat×Nat)) (σc:Sl) (res:Nat→AV),cs.length=n→DInv E l K FP σ0 listed σa h seen pn fr cs σc res→wpOp E.P l.toArray (exW E K) i (wpAny E.P .any l.toArray (exW E K) u (listed.setIfInBounds i true)) a w:=by
   intro n
   induction n with
   |zero=>
    intro seen pn fr cs σc res hn v
    have hcs:cs=[]:=List.eq_nil_of_length_eq_zero hn
    subst hcs
    have his:i∈seen:=(v.all i h1).resolve_right (by simp)
    obtain⟨seen',σi,o,ho',q1,q2,q3,q4,q5,q6,_⟩:=v.pend i his h2
    rw [ho] at ho'
    injection ho' with ho'
    subst ho'
    have hsame:=Qa1 hok ho v.hcl q2 h2 q3 q4 hrd v.act q5
    have hc:=(q6.2 h v.fp).2 σa a w (exW E K) hsame st
    have hnext:∀a' w',St E.N E.C (σa.setO l[i].dst (res i)) h a' w'→wpAny E.P .any l.toArray (exW E K) u (listed.setIfInBounds i true) a' w':=fun a' w' st'=>by
     refine ih FP _ _ h a' w' hun ⟨seen,pn,fr,[],σc,res,by simpa using v.size,Qcy v.size h1 ho v.hcl hrd,v.go,v.frs,v.all,v.cw,v.fp,v.closed,v.aft,fun j hj hl=> ?_,fun p hp=> ?_,?_,fun j hj hl=> ?_⟩ st'
     ·rw [getD_set (by have:=v.size;omega)] at hl
      split at hl
      ·cases hl
      ·exact v.pend j hj hl
     ·rw [getD_set (by have:=v.size;omega)]
      split
      ·rfl
      ·exact v.pins p hp
     ·refine(v.act.set hok ho (by rw [h2];simp) rfl).congr (fun j _=> ?_) fun _ _=>rfl
      rw [getD_set (by have:=v.size;omega)]
      by_cases hji:j=i<;>simp [hji]
     ·rw [getD_set (by have:=v.size;omega)] at hl
      split at hl
      ·rename_i e;rw [e];exact his
      ·exact v.sub j hj hl
    unfold wpOp
    rw [show l.toArray[i]?=some l[i] from by simp [h1]]
    simp only
    split
    ·rename_i hw
     rw [iP hw] at hc
     exact .inl (Oper.wp_mono hnext hc)
    ·rename_i hw
     rw [iN hw] at hc
     have st2:=st.put q6.1 (r:=.tup []) (v:=undef) ⟨[],rfl,trivial⟩
     rw [←hc] at st2
     exact hnext _ _ st2
   |succ n ihn=>
    intro seen pn fr cs σc res hn v
    by_cases his:i∈seen
    ·obtain⟨seen',σi,o,ho',q1,q2,q3,q4,q5,q6,_⟩:=v.pend i his h2
     rw [ho] at ho'
     injection ho' with ho'
     subst ho'
     have hsame:=Qa1 hok ho v.hcl q2 h2 q3 q4 hrd v.act q5
     have hc:=(q6.2 h v.fp).2 σa a w (exW E K) hsame st
     have hnext:∀a' w',St E.N E.C (σa.setO l[i].dst (res i)) h a' w'→wpAny E.P .any l.toArray (exW E K) u (listed.setIfInBounds i true) a' w':=fun a' w' st'=>by
      refine ih FP _ _ h a' w' hun ⟨seen,pn,fr,cs,σc,res,by simpa using v.size,Qcy v.size h1 ho v.hcl hrd,v.go,v.frs,v.all,v.cw,v.fp,v.closed,v.aft,fun j hj hl=> ?_,fun p hp=> ?_,?_,fun j hj hl=> ?_⟩ st'
      ·rw [getD_set (by have:=v.size;omega)] at hl
       split at hl
       ·cases hl
       ·exact v.pend j hj hl
      ·rw [getD_set (by have:=v.size;omega)]
       split
       ·rfl
       ·exact v.pins p hp
      ·refine(v.act.set hok ho (by rw [h2];simp) rfl).congr (fun j _=> ?_) fun _ _=>rfl
       rw [getD_set (by have:=v.size;omega)]
       by_cases hji:j=i<;>simp [hji]
      ·rw [getD_set (by have:=v.size;omega)] at hl
       split at hl
       ·rename_i e;rw [e];exact his
       ·exact v.sub j hj hl
     unfold wpOp
     rw [show l.toArray[i]?=some l[i] from by simp [h1]]
     simp only
     split
     ·rename_i hw
      rw [iP hw] at hc
      exact .inl (Oper.wp_mono hnext hc)
     ·rename_i hw
      rw [iN hw] at hc
      have st2:=st.put q6.1 (r:=.tup []) (v:=undef) ⟨[],rfl,trivial⟩
      rw [←hc] at st2
      exact hnext _ _ st2
    ·match cs,hn,v with
     |(c,b)::cs,hn,v=>
      by_cases hb:b=0∨b=3
      ·obtain⟨fr',σc',res',v'⟩:=v.adv hok hb
       exact ihn _ _ _ cs _ _ (by simpa using hn) v'
      obtain⟨size,hcl,go,frs,all,cw,fp,closed,aft,pend,pins,act,sub⟩:=v
      cases cw with
      |flt=>exact absurd (.inl rfl) hb
      |fre=>exact absurd (.inr rfl) hb
      | @pin _ FP' _ _ _ o R _ _ hoc hmk hpin kf k=>
      have hcl':c<l.length:=(List.getElem?_eq_some_iff.1 hoc).1
      have hcn:c∉seen:=OS go c (by simp)
      have hlc:listed.getD c false=false:=by
       cases hb:listed.getD c false with
       |false=>rfl
       |true=>exact absurd (sub c hcl' hb) hcn
      simp only [QaE,hoc,Ba] at go
      obtain⟨⟨⟨⟨_,g2⟩,_⟩,g3⟩,g4⟩:=go
      rw [iN hb,iN (fun e=>hb (.inr e))] at g4
      have g4':QaE l (c::seen) (c::pn) fr cs=true:=g4
      have hic:i=c:=by
       rcases all i h1 with hm|hm
       ·exact absurd hm his
       ·simp only [Ld,Lb] at hm
        rcases hm with hm|hm
        ·exact hm
        ·obtain⟨o',ho',he⟩:=Qqs g4' (Lf ..) i hm
         rw [ho] at ho'
         injection ho' with ho'
         subst ho'
         have:=Kb (L:=fun j=>listed.getD j false) (fun i o hi=>hcl i o hi) 12 l[i] c hrd he
         rw [hlc] at this
         cases this
      subst hic
      rw [ho] at hoc
      injection hoc with hoc
      subst hoc
      have hdeps:∀e∈l[i].after,Region.binds .any e=true→e.on∈seen:=fun e he hb=>Qes g2 he hb
      have hsame:=Qa1 hok ho hcl hcn h2 closed hdeps hrd act aft
      have kk:=hpin σa K hsame a w st
      have hall:b=2→∀j∈seen,j∈fr∨listed.getD j false=true:=fun hm j hj=>by
       subst hm
       simp only [bne_self_eq_false,Bool.false_or] at g3
       have:=List.all_eq_true.1 g3 j hj
       rw [Bool.or_eq_true] at this
       rcases this with h|h
       ·exact .inl (by simpa using h)
       ·exact .inr (Kb (L:=fun j=>listed.getD j false) (fun i o hi=>hcl i o hi) 12 l[i] j hrd h)
      have hnext:∀a' w',exW E (.stop (fun σ2 h2=>∃r,R r h2∧σ2=σa.setO l[i].dst r)::K) .normal a' w'→wpAny E.P .any l.toArray (exW E K) u (listed.setIfInBounds i true) a' w':=by
       rintro a' w' ⟨σ2,h',⟨r,hR,rfl⟩,st'⟩
       have fp':=kf r h' hR
       have cw':=k r h' hR
       let res':Nat→AV:=fun j=>if j=i then r else res j
       have hres:∀j,j≠i→res' j=res j:=fun j hj=>iN hj
       have hresi:res' i=r:=iP rfl
       have aft':UF l res' σ0 (· ∈seen) σc:=aft.congr (fun _ _=>Iff.rfl) fun j hj=>hres j fun e=>hcn (e▸hj)
       have act':UF l res' σ0 (fun j=>listed.getD j false=true) σa:=act.congr (fun _ _=>Iff.rfl) fun j hj=>hres j fun e=>by subst e;rw [h2] at hj;cases hj
       refine ih FP' _ _ h' a' w' hun ⟨i::seen,i::pn,fr,cs,σc.setO l[i].dst r,res',by simpa using size,Qcy size h1 ho hcl hrd,g4',fun j hj=>Lm _ (frs j hj),fun j hj=> ?_,cw',fp',fun j hj p hp e he hb=> ?_,(aft'.set hok ho hcn hresi).congr (fun j _=>Lb) fun _ _=>rfl,fun j hj hl=> ?_,fun p hp=> ?_,?_,fun j hj hl=> ?_⟩ st'
       ·rcases all j hj with hm|hm
        ·exact .inl (Lm _ hm)
        ·simp only [Ld,Lb] at hm
         rcases hm with rfl|hm
         ·exact .inl (Lf ..)
         ·exact .inr hm
       ·rcases Lb.1 hj with rfl|hj
        ·rw [ho] at hp;injection hp with hp;subst hp
         exact Lm _ (hdeps e he hb)
        ·exact Lm _ (closed j hj p hp e he hb)
       ·rw [getD_set om] at hl
        split at hl
        ·cases hl
        ·rename_i hji
         have hj':j∈seen:=(Lb.1 hj).resolve_left hji
         obtain⟨seen',σi,p,hp,q1,q2,q3,q4,q5,q6,q7⟩:=pend j hj' hl
         rcases hmk with hm2|⟨_,rfl⟩
         ·rcases hall hm2 j hj' with hfr|hl2
          ·exact⟨seen',σi,p,hp,fun q hq=>Lm _ (q1 q hq),q2,q3,q4,q5.congr (fun _ _=>Iff.rfl) fun q hq=>hres q fun e=>hcn (e▸q1 q hq),by rw [hres j hji];exact(q7 hfr).wide,fun hm=>by rw [hres j hji];exact q7 hm⟩
          ·rw [hl2] at hl;cases hl
         ·exact⟨seen',σi,p,hp,fun q hq=>Lm _ (q1 q hq),q2,q3,q4,q5.congr (fun _ _=>Iff.rfl) fun q hq=>hres q fun e=>hcn (e▸q1 q hq),by rw [hres j hji];exact q6,fun hm=>by rw [hres j hji];exact q7 hm⟩
       ·rw [getD_set om]
        split
        ·rfl
        ·rename_i hpi
         exact pins p ((Lb.1 hp).resolve_left hpi)
       ·refine(act'.set hok ho (by rw [h2];simp) hresi).congr (fun j _=> ?_) fun _ _=>rfl
        rw [getD_set om]
        by_cases hji:j=i<;>simp [hji]
       ·rw [getD_set om] at hl
        split at hl
        ·rename_i e;rw [e];exact Lf ..
        ·exact Lm _ (sub j hj hl)
      have hq:∀e a w,e≠.normal→exW E (.stop (fun σ2 h2=>∃r,R r h2∧σ2=σa.setO l[i].dst r)::K) e a w→exW E K e a w:=fun e a w hne hq=>by
       cases e with
       |normal=>exact absurd rfl hne
       |exit id=>exact hq
       |goto l=>exact hq
       |ret=>exact hq
       |panic c=>exact hq
       |outgrown=>exact hq
      unfold wpOp
      rw [show l.toArray[i]?=some l[i] from by simp [h1]]
      change wpList E.P l.toArray _ [l[i]] a w at kk
      simp only [wpList] at kk
      simp only
      split
      ·rename_i hw
       rw [iP hw] at kk
       exact kk.imp (QiI hnext hq) (fun x=>⟨x.1,x.2.elim fun a h=>h.elim fun w h=>⟨a,w,hq _ _ _ (by simp) h⟩⟩)
      ·rename_i hw
       rw [iN hw] at kk
       exact hnext _ _ kk
  exact key cs.length seen pn fr cs σc res rfl v
theorem Yf {id:Nat} (FP:Qa) (cs:List (Nat×Nat)) (hm:E.P.follows .mixedOrders=true) (hok:(JU l&&QaE l [] [] [] cs&&((List.range l.length).all fun i=>(cs.map (·.1)).contains i))=true) (hFP:Kp FP h) (k:CW E l K FP cs σ h):
  aw E (.code (.region id l.toArray true)::K) σ h:=fun a w s=>by
 simp only [Ba] at hok
 obtain⟨⟨hlx,hgo⟩,hall⟩:=hok
 refine wp_region_any hm ?_
 have s':=s.later (Fr.drew (fun _=>False) w (w.drawn+1))
 have e0:∀j,(Array.replicate l.length false).getD j false=false:=fun j=>by
  rw [Array.getD_eq_getD_getElem?]
  simp only [Array.getElem?_replicate]
  split<;>rfl
 have hun:∀m,unl (fun j=>(Array.replicate l.length false).getD j false) m=m:=by
  intro m
  induction m with
  |zero=>rfl
  |succ m ih=>rw [unl,ih,e0];rfl
 have:=Qmv (E:=E) (K:=K) (σ0:=σ) (Qts hlx) (Qom hlx) l.length FP (Array.replicate l.length false) σ h a {w with drawn:=w.drawn+1} (hun _) ⟨[],[],[],cs,σ,fun _=>.c .any,by simp,fun i o _ hl=>(by rw [e0] at hl;cases hl),hgo,fun i hi=>absurd hi Lj,fun i hi=>.inr ?_,k,hFP,fun j hj=>absurd hj Lj,⟨fun j _ _ hj=>absurd hj Lj,fun _ _=>rfl⟩,fun i hi=>absurd hi Lj,fun p hp=>absurd hp Lj,⟨fun j _ _ hj=>(by rw [e0] at hj;cases hj),fun _ _=>rfl⟩,fun i _ hl=>(by rw [e0] at hl;cases hl)⟩ s'
 ·simpa using this
 ·have:=List.all_eq_true.1 hall i (List.mem_range.2 hi)
  simpa using this
theorem Flt.pure {nw:Bool} {q:Prop} {r:AV} (hw:Qx l σ o=some true) (hb:WV E.P nw FP (ev σ) o.op=some (q,r)) (hq:q) (hd:Qw E.N o.dst=true):Flt E FP l σ o r:=by
 refine⟨hd,fun h hfp=>⟨hd,fun σ' a w Q hs s=> ?_⟩⟩
 rw [iP (s.wanted ((Xh hs).trans hw))]
 obtain⟨v,hrun,hr⟩:=WW (fun _=>rfl) hb hq (QH E.C h w) w a.eval QH.mono' (fun x hx=>by rw [←XI hx hs];exact QK s x) (fun g o hm=>s.heap g o (hfp _ hm))
 unfold Oper.wp
 rw [hrun o rfl]
 exact s.put hd hr
theorem Flt.skip (hw:Qx l σ o=some false) (hd:Qw E.N o.dst=true):Flt E FP l σ o (.tup []):=⟨hd,fun _ _=>Ko.skip hw hd⟩
theorem QxV {i:Nat} {cs:List (Nat×Nat)} (ho:l[i]?=some o) (hd:Qw E.N o.dst=true) (k:∀R:Option (Prop×Sl)→Prop,(∀q σ',CW E l K FP cs σ' h→(hq:q:=by(try simp only [XH])<;>and_intros<;>first|exact True.intro|omega|trivial)→R (some (q,σ')))→R (Zt E.P true FP l o σ)):CW E l K FP ((i,0)::cs) σ h:=by
 have:=k (fun x=>x=Zt E.P true FP l o σ→CW E l K FP ((i,0)::cs) σ h) (fun q σ' ha hq e=>by
  unfold Zt at e
  split at e
  ·rename_i hw
   split at e
   ·rename_i q1 r hp
    injection e with e
    injection e with e1 e2
    subst e1 e2
    exact .flt ho (Flt.pure hw hp hq hd) ha
   ·cases e
  ·rename_i hw
   injection e with e
   injection e with e1 e2
   subst e1 e2
   exact .flt ho (Flt.skip hw hd) ha
  ·cases e)
 exact this rfl
end
end
section
section
variable {E : Vl} {K : List It} {l : List Oper} {FP : Qa} {σ σ' : Sl} {h : Qa} {o : Oper} {i : Nat} {cs : List (Nat × Nat)}
theorem wc1 (ho:l[i]?=some o) (hd:Qw E.N o.dst=true) (k:∀R:Option (Prop×Sl)→Prop,(∀q σ',CW E l K FP cs σ' h→(hq:q:=by(try simp only [XH])<;>and_intros<;>first|exact True.intro|omega|trivial)→R (some (q,σ')))→R (Zt E.P true FP l o σ)):CW E l K FP ((i,0)::cs) σ h:=QxV ho hd k
theorem wc2 (k:aw E K σ h):CW E l K FP [] σ h:=.nil k
theorem QiJ {σ':Sl} {xs:List Operand} (hx:∀x∈xs,x∈o.op.operands) (hs:∀t∈looks l o,σ'.get t=σ.get t):xs.map (ev σ')=xs.map (ev σ):=List.map_congr_left fun x h=>XI (hx x h) hs
theorem Kc {FP':Qa} {m:Nat} {f:FuncId} {xs:List Operand} {ts:Array TypeId} {hc hr:Qa} {args:List AV} {Q:AV→Qa→Prop} (ho:l[i]?=some o) (hf:Fh E.P f hc args Q) (hop:o.op=.call {callee:=.value (.func f),args:=xs.toArray,argTypes:=ts}) (hw:Qx l σ o=some true) (hd:Qw E.N o.dst=true)
  (hp:h.Perm (hc++hr)) (le:Us [] (xs.map (ev σ)) args) (hFP:∀r h',Q r h'→Kp FP' (h'++hr)) (k:∀r h',Q r h'→(∀g∈h'.keys,g∉hr.keys)→CW E l K FP' cs (σ.setO o.dst r) (h'++hr)) (hm:m=2∨m=1∧FP'=FP:=by first|exact .inl rfl|exact .inr ⟨rfl,rfl⟩):CW E l K FP ((i,m)::cs) σ h:=by
 refine .pin ho hm (R:=fun r h2=>∃h',Q r h'∧(∀g∈h'.keys,g∉hr.keys)∧h2=h'++hr) (fun σ' K hs=> ?_) ?_ ?_
 ·have he:xs.map (ev σ')=xs.map (ev σ):=QiJ (fun x hx=>by rw [hop];simp [Op.operands,Call.operands,hx]) hs
  exact Ql hf hop ((Xh hs).trans hw) hd hp (by rw [he];exact le) fun r h' hq hfr=>XA (Qb ⟨r,⟨h',hq,hfr,rfl⟩,rfl⟩)
 ·rintro r h2 ⟨h',hq,_,rfl⟩;exact hFP r h' hq
 ·rintro r h2 ⟨h',hq,hfr,rfl⟩;exact k r h' hq hfr
theorem Xm {FP':Qa} {mk t g off m n:Nat} {ty:TypeId} {ag:Bool} {f:Nat→CV} {a x:Operand} {v:AV} {h':Qa} (ho:l[i]?=some o) (hop:o.op=.store t a x) (hw:Qx l σ o=some true) (hd:Qw E.N o.dst=true) (hdn:o.dst=none) (ha:ev σ a=.c (.optr g off)) (hx:ev σ x=v)
  (hg:h.get g=some (.cells ty m f)) (ht:XN E.P t=some (ag,n)) (hnt:∀xs,v≠.tup xs) (hs:v.cells.all CV.solid=true) (hlen:v.cells.length=n) (hle:off+n≤m)
  (hh:h.set g (.cells ty m (VL f off v.cells))=h') (hFP:Kp FP' h') (k:CW E l K FP' cs σ h') (hm:mk=2∨mk=1∧FP'=FP:=by first|exact .inl rfl|exact .inr ⟨rfl,rfl⟩):CW E l K FP ((i,mk)::cs) σ h:=by
 refine .pin ho hm (R:=fun _ h2=>h2=h') (fun σ' K hsm=> ?_) ?_ ?_
 ·exact KV hop ((Xh hsm).trans hw) hd hdn ((XI (by rw [hop];simp [Op.operands]) hsm).trans ha) ((XI (by rw [hop];simp [Op.operands]) hsm).trans hx) hg ht hnt hs hlen hle hh (XA (Qb ⟨.c .any,rfl,by rw [hdn];rfl⟩))
 ·rintro _ _ rfl;exact hFP
 ·rintro _ _ rfl;rw [hdn];exact k
theorem OT {FP':Qa} {m:Nat} {t:TypeId} {z:List CV} (ho:l[i]?=some o) (hop:o.op=.alloc t) (hw:Qx l σ o=some true) (hd:Qw E.N o.dst=true) (hz:Qj E.P t=some z) (hFP:Kp FP' h)
  (k:∀g,g∉h.keys→CW E l K FP' cs (σ.setO o.dst (.c (.optr g 0))) ((g,.cells t z.length (ofL z))::h)) (hm:m=2∨m=1∧FP'=FP:=by first|exact .inl rfl|exact .inr ⟨rfl,rfl⟩):CW E l K FP ((i,m)::cs) σ h:=by
 refine .pin ho hm (R:=fun r h2=>∃g,g∉h.keys∧r=.c (.optr g 0)∧h2=(g,.cells t z.length (ofL z))::h) (fun σ' K hs=> ?_) ?_ ?_
 ·exact Qef hop ((Xh hs).trans hw) hd hz fun g hg=>XA (Qb ⟨_,⟨g,hg,rfl,rfl⟩,rfl⟩)
 ·rintro r h2 ⟨g,_,_,rfl⟩;exact fun p hp=>Lm _ (hFP p hp)
 ·rintro r h2 ⟨g,hg,rfl,rfl⟩;exact k g hg
theorem Flt.call {f:FuncId} {xs:List Operand} {ts:Array TypeId} {args:List AV} {r:AV} (hf:Fa E.P f args r) (hop:o.op=.call {callee:=.value (.func f),args:=xs.toArray,argTypes:=ts}) (hw:Qx l σ o=some true) (hd:Qw E.N o.dst=true)
 (le:∀h,Kp FP h→Us h (xs.map (ev σ)) args):Flt E FP l σ o r:=⟨hd,fun h hfp=>Ko.call hf hop hw hd (le h hfp)⟩
theorem Yg {f:FuncId} {xs:List Operand} {ts:Array TypeId} {args:List AV} {r:AV} (ho:l[i]?=some o) (hf:Fa E.P f args r) (hop:o.op=.call {callee:=.value (.func f),args:=xs.toArray,argTypes:=ts}) (hw:Qx l σ o=some true) (hd:Qw E.N o.dst=true)
 (le:∀h,Kp FP h→Us h (xs.map (ev σ)) args) (k:CW E l K FP cs (σ.setO o.dst r) h):CW E l K FP ((i,0)::cs) σ h:=.flt ho (Flt.call hf hop hw hd le) k
theorem Qf {h:Qa}:Kp [] h:=fun p hp=>absurd hp Lj
theorem Qm {p:Nat×XD} {FP h:Qa} (h1:p∈h) (h2:Kp FP h):Kp (p::FP) h:=fun q hq=>by
 rcases Lb.1 hq with rfl|hq
 ·exact h1
 ·exact h2 q hq
theorem XY {p:Nat×XD} {FP h:Qa} (h1:Kp FP h):Kp FP (p::h):=fun q hq=>Lm _ (h1 q hq)
end
end
theorem qa {a : Nat × XD} {h : Qa} (h1 : a ∈ h := by simp) : Kp [a] h := Qm h1 Qf
theorem qb {α : Type} {a b : α} (h : a = b := by first|rfl|simp only [Ad,Ln,Lq]<;>rfl) : a = b := h
theorem qc {p : Prop} (h : p := by unfold maxLen;omega) : p := h
theorem qd {t : Nat} {P : Operand → Prop} (h : P (.tmp t) := by exact ⟨rfl,rfl,rfl⟩) : ∀ x ∈ [Operand.tmp t], P x := by intro x hx;simp only [Lv] at hx;subst hx;exact h
section
structure X9 (X:Prop):Prop where
 out:X
theorem o0:True:=True.intro
theorem oj {a b:Prop} (x:a) (y:b):a∧b:=⟨x,y⟩
theorem yG {F X G:Prop} (f:F) (x:X) (k:F→X9 X→G:=by intro f x;(repeat first|apply wa1|apply wa2|apply wa3|apply wa4|apply wa5 rfl|apply wa6|apply wa7|(refine wb1 rfl fun R r=>?_;simp only[go_sem,f];with_reducible show R (some _);with_reducible refine r _ _ ?_;clear r R)|apply wa8|(refine wd1 rfl fun R r=>?_;simp only[go_sem,f];with_reducible show R (some _);with_reducible refine r _ _ ?_;clear r R)|apply wc2|(refine wc1 rfl rfl fun R r=>?_;simp only[go_sem,f];with_reducible show R (some _);with_reducible refine r _ _ ?_;clear r R));exact x.out):G:=k f ⟨x⟩
theorem xG {X G:Prop} (x:X) (k:X9 X→G:=by intro x;(repeat first|apply wa1|apply wa2|apply wa3|apply wa4|apply wa5 rfl|apply wa6|apply wa7|(refine wb1 rfl fun R r=>?_;simp only[go_sem];with_reducible show R (some _);with_reducible refine r _ _ ?_;clear r R)|apply wa8|(refine wd1 rfl fun R r=>?_;simp only[go_sem];with_reducible show R (some _);with_reducible refine r _ _ ?_;clear r R)|apply wc2|(refine wc1 rfl rfl fun R r=>?_;simp only[go_sem];with_reducible show R (some _);with_reducible refine r _ _ ?_;clear r R));exact x.out):G:=k ⟨x⟩
theorem yH {F X G:Prop} (f:F) (x:X) (k:F→X9 X→G:=by intro f x;(repeat first|apply wa7|(refine wb1 rfl fun R r=>?_;simp only[go_sem,f];with_reducible show R (some _);with_reducible refine r _ _ ?_;clear r R)|apply wa8|(refine wd1 rfl fun R r=>?_;simp only[go_sem,f];with_reducible show R (some _);with_reducible refine r _ _ ?_;clear r R)|apply wc2|(refine wc1 rfl rfl fun R r=>?_;simp only[go_sem,f];with_reducible show R (some _);with_reducible refine r _ _ ?_;clear r R));exact x.out):G:=k f ⟨x⟩
theorem xH {X G:Prop} (x:X) (k:X9 X→G:=by intro x;(repeat first|apply wa7|(refine wb1 rfl fun R r=>?_;simp only[go_sem];with_reducible show R (some _);with_reducible refine r _ _ ?_;clear r R)|apply wa8|(refine wd1 rfl fun R r=>?_;simp only[go_sem];with_reducible show R (some _);with_reducible refine r _ _ ?_;clear r R)|apply wc2|(refine wc1 rfl rfl fun R r=>?_;simp only[go_sem];with_reducible show R (some _);with_reducible refine r _ _ ?_;clear r R));exact x.out):G:=k ⟨x⟩
theorem yI {F X G:Prop} (f:F) (x:X) (k:F→X9 X→G:=by intro f x;(repeat first|apply wa1|apply wa3|apply wa4|apply wa5 rfl|apply wa6|apply wa7|(refine wb1 rfl fun R r=>?_;simp only[go_sem,f];with_reducible show R (some _);with_reducible refine r _ _ ?_;clear r R)|apply wa8|(refine wd1 rfl fun R r=>?_;simp only[go_sem,f];with_reducible show R (some _);with_reducible refine r _ _ ?_;clear r R)|apply wc2|(refine wc1 rfl rfl fun R r=>?_;simp only[go_sem,f];with_reducible show R (some _);with_reducible refine r _ _ ?_;clear r R));exact x.out):G:=k f ⟨x⟩
theorem xI {X G:Prop} (x:X) (k:X9 X→G:=by intro x;(repeat first|apply wa1|apply wa3|apply wa4|apply wa5 rfl|apply wa6|apply wa7|(refine wb1 rfl fun R r=>?_;simp only[go_sem];with_reducible show R (some _);with_reducible refine r _ _ ?_;clear r R)|apply wa8|(refine wd1 rfl fun R r=>?_;simp only[go_sem];with_reducible show R (some _);with_reducible refine r _ _ ?_;clear r R)|apply wc2|(refine wc1 rfl rfl fun R r=>?_;simp only[go_sem];with_reducible show R (some _);with_reducible refine r _ _ ?_;clear r R));exact x.out):G:=k ⟨x⟩
theorem yO {F X G:Prop} (f:F) (x:X) (k:F→X9 X→G:=by intro f x;(first|(refine wb1 rfl fun R r=>?_;simp only[go_sem,f];with_reducible show R (some _);with_reducible refine r _ _ ?_;clear r R)|(refine wd1 rfl fun R r=>?_;simp only[go_sem,f];with_reducible show R (some _);with_reducible refine r _ _ ?_;clear r R)|apply wc2|(refine wc1 rfl rfl fun R r=>?_;simp only[go_sem,f];with_reducible show R (some _);with_reducible refine r _ _ ?_;clear r R));exact x.out):G:=k f ⟨x⟩
theorem xO {X G:Prop} (x:X) (k:X9 X→G:=by intro x;(first|(refine wb1 rfl fun R r=>?_;simp only[go_sem];with_reducible show R (some _);with_reducible refine r _ _ ?_;clear r R)|(refine wd1 rfl fun R r=>?_;simp only[go_sem];with_reducible show R (some _);with_reducible refine r _ _ ?_;clear r R)|apply wc2|(refine wc1 rfl rfl fun R r=>?_;simp only[go_sem];with_reducible show R (some _);with_reducible refine r _ _ ?_;clear r R));exact x.out):G:=k ⟨x⟩
theorem yS {F X G:Prop} (f:F) (x:X) (k:F→X9 X→G:=by intro f x;(try simp only[go_sem,f]);exact x.out):G:=k f ⟨x⟩
theorem xS {X G:Prop} (x:X) (k:X9 X→G:=by intro x;(try simp only[go_sem]);exact x.out):G:=k ⟨x⟩
theorem yT {F X G C:Prop} (c:C) (f:F) (x:X) (k:C→F→X9 X→G:=by intro c f x;refine Qmm c rfl fun R r=>?_;simp only[go_sem,f];refine r _ rfl ?_;clear r R;exact x.out):G:=k c f ⟨x⟩
theorem xT {X G C:Prop} (c:C) (x:X) (k:C→X9 X→G:=by intro c x;refine Qmm c rfl fun R r=>?_;simp only[go_sem];refine r _ rfl ?_;clear r R;exact x.out):G:=k c ⟨x⟩
theorem yU {F X G:Prop} (f:F) (x:X) (k:F→X9 X→G:=by intro f x;refine QiB rfl fun R r=>?_;simp only[go_sem,f];refine r _ rfl ?_;clear r R;exact x.out):G:=k f ⟨x⟩
theorem xU {X G:Prop} (x:X) (k:X9 X→G:=by intro x;refine QiB rfl fun R r=>?_;simp only[go_sem];refine r _ rfl ?_;clear r R;exact x.out):G:=k ⟨x⟩
theorem yV {F X G:Prop} (f:F) (x:X) (k:F→X9 X→G:=by intro f x;refine QiC rfl fun R r=>?_;simp only[go_sem,f];refine r _ rfl ?_;clear r R;exact x.out):G:=k f ⟨x⟩
theorem xV {X G:Prop} (x:X) (k:X9 X→G:=by intro x;refine QiC rfl fun R r=>?_;simp only[go_sem];refine r _ rfl ?_;clear r R;exact x.out):G:=k ⟨x⟩
theorem zE {F P:Prop} (f:F) (k:F→P:=by intro f;simp only[go_sem,f]<;>rfl):P:=k f
theorem eE {P:Prop} (k:P:=by simp only[go_sem]<;>rfl):P:=k
theorem zB {F P:Prop} (f:F) (k:F→P:=by intro f;simp only[go_sem,f]<;>and_intros<;>first|exact True.intro|(with_reducible rfl)|exact Wh om|rfl):P:=k f
theorem eB {P:Prop} (k:P:=by simp only[go_sem]<;>and_intros<;>first|exact True.intro|(with_reducible rfl)|exact Wh om|rfl):P:=k
theorem zZ {α:Type} {l:List α}:l.Sublist l:=Lr l
theorem zL {F P:Prop} (f:F) (k:F→P:=by intro f;first|exact True.intro|simp only[go_sem,f]<;>and_intros<;>first|exact True.intro|exact .c (.refl _)|exact .c wl2|exact .agg (ZC _)|exact .agg (by simp only[LeL];and_intros<;>first|exact True.intro|exact .refl _|exact wl2)|exact .c .nils):P:=k f
theorem eL {P:Prop} (k:P:=by first|exact True.intro|simp only[go_sem]<;>and_intros<;>first|exact True.intro|exact .c (.refl _)|exact .c wl2|exact .agg (ZC _)|exact .agg (by simp only[LeL];and_intros<;>first|exact True.intro|exact .refl _|exact wl2)|exact .c .nils):P:=k
section
variable {E : Vl} {K : List It} {σ : Sl} {h : Qa} {all l rest : List Oper} {o : Oper} {F : Prop}
theorem yC {f:FuncId} {xs:List Operand} {ts:Array TypeId} {args:List AV} {r:AV} {X:Prop} (q:F) (hf:Fa E.P f args r) (x:X) (hop:o.op=.call {callee:=.value (.func f),args:=xs.toArray,argTypes:=ts}:=by exact rfl) (hw:Qx all σ o=some true:=by exact rfl) (hd:Qw E.N o.dst=true:=by exact rfl)
 (le:F→Us h (xs.map (ev σ)) args:=by intro f;first|exact True.intro|simp only[go_sem,f]<;>and_intros<;>first|exact True.intro|exact .c (.refl _)|exact .c wl2|exact .agg (ZC _)|exact .agg (by simp only[LeL];and_intros<;>first|exact True.intro|exact .refl _|exact wl2)|exact .c .nils) (k:F→X9 X→aw E (.ops all rest::K) (σ.setO o.dst r) h:=by intro f x;(try simp only[go_sem,f]);exact x.out):aw E (.ops all (o::rest)::K) σ h:=Qu hf hop hw hd (le q) (k q ⟨x⟩)
theorem xC {f:FuncId} {xs:List Operand} {ts:Array TypeId} {args:List AV} {r:AV} {X:Prop} (hf:Fa E.P f args r) (x:X) (hop:o.op=.call {callee:=.value (.func f),args:=xs.toArray,argTypes:=ts}:=by exact rfl) (hw:Qx all σ o=some true:=by exact rfl) (hd:Qw E.N o.dst=true:=by exact rfl)
 (le:Us h (xs.map (ev σ)) args:=by first|exact True.intro|simp only[go_sem]<;>and_intros<;>first|exact True.intro|exact .c (.refl _)|exact .c wl2|exact .agg (ZC _)|exact .agg (by simp only[LeL];and_intros<;>first|exact True.intro|exact .refl _|exact wl2)|exact .c .nils) (k:X9 X→aw E (.ops all rest::K) (σ.setO o.dst r) h:=by intro x;(try simp only[go_sem]);exact x.out):aw E (.ops all (o::rest)::K) σ h:=Qu hf hop hw hd le (k ⟨x⟩)
theorem yD {f:FuncId} {xs:List Operand} {ts:Array TypeId} {args:List AV} {r:AV} {n:Nat} {X:Prop} (q:F) (hf:Fa E.P f args r) (x:X) (hop:o.op=.call {callee:=.value (.func f),args:=xs.toArray,argTypes:=ts}:=by exact rfl) (hw:Qx l σ o=some true:=by exact rfl) (hd:Qw E.N o.dst=true:=by exact rfl)
 (le:F→Us h (xs.map (ev σ)) args:=by intro f;first|exact True.intro|simp only[go_sem,f]<;>and_intros<;>first|exact True.intro|exact .c (.refl _)|exact .c wl2|exact .agg (ZC _)|exact .agg (by simp only[LeL];and_intros<;>first|exact True.intro|exact .refl _|exact wl2)|exact .c .nils) (k:F→X9 X→YE E h l K n rest (σ.setO o.dst r):=by intro f x;(try simp only[go_sem,f]);exact x.out):YE E h l K (n+1) (o::rest) σ:=Qbq hf hop hw hd (le q) (k q ⟨x⟩)
theorem xD {f:FuncId} {xs:List Operand} {ts:Array TypeId} {args:List AV} {r:AV} {n:Nat} {X:Prop} (hf:Fa E.P f args r) (x:X) (hop:o.op=.call {callee:=.value (.func f),args:=xs.toArray,argTypes:=ts}:=by exact rfl) (hw:Qx l σ o=some true:=by exact rfl) (hd:Qw E.N o.dst=true:=by exact rfl)
 (le:Us h (xs.map (ev σ)) args:=by first|exact True.intro|simp only[go_sem]<;>and_intros<;>first|exact True.intro|exact .c (.refl _)|exact .c wl2|exact .agg (ZC _)|exact .agg (by simp only[LeL];and_intros<;>first|exact True.intro|exact .refl _|exact wl2)|exact .c .nils) (k:X9 X→YE E h l K n rest (σ.setO o.dst r):=by intro x;(try simp only[go_sem]);exact x.out):YE E h l K (n+1) (o::rest) σ:=Qbq hf hop hw hd le (k ⟨x⟩)
theorem yB {t:TypeId} {y:Operand} {v:AV} {X N:Nat→Prop} (q:F) (x:∀g,N g→X g) (hop:o.op=.box t y:=by exact rfl) (hw:Qx all σ o=some true:=by exact rfl) (hd:Qw E.N o.dst=true:=by exact rfl) (hx:F→ev σ y=v:=by intro f;simp only[go_sem,f]<;>rfl) (hnt:∀xs,v≠.tup xs:=by exact fun _ e=>by cases e) (hs:v.cells.all CV.solid=true:=by first|exact rfl|exact solid_gs3)
  (hn:∀g,g∉h.keys→N g:=by intro g h;replace h:=Qa.ne_of h;(first|dsimp only [Qa.ne,gh] at h|dsimp only [Qa.ne] at h|skip);exact h) (k:F→∀g,N g→X9 (X g)→aw E (.ops all rest::K) (σ.setO o.dst (.c (.optr g 0))) ((g,.cells t v.cells.length (ofL v.cells))::h):=by intro f g e x;(try simp only[go_sem,f,e]);exact x.out):aw E (.ops all (o::rest)::K) σ h:=
 Ka hop hw hd (hx q) hnt hs fun g hg=>k q g (hn g hg) ⟨x g (hn g hg)⟩
theorem xB {t:TypeId} {y:Operand} {v:AV} {X N:Nat→Prop} (x:∀g,N g→X g) (hop:o.op=.box t y:=by exact rfl) (hw:Qx all σ o=some true:=by exact rfl) (hd:Qw E.N o.dst=true:=by exact rfl) (hx:ev σ y=v:=by simp only[go_sem]<;>rfl) (hnt:∀xs,v≠.tup xs:=by exact fun _ e=>by cases e) (hs:v.cells.all CV.solid=true:=by first|exact rfl|exact solid_gs3)
  (hn:∀g,g∉h.keys→N g:=by intro g h;replace h:=Qa.ne_of h;(first|dsimp only [Qa.ne,gh] at h|dsimp only [Qa.ne] at h|skip);exact h) (k:∀g,N g→X9 (X g)→aw E (.ops all rest::K) (σ.setO o.dst (.c (.optr g 0))) ((g,.cells t v.cells.length (ofL v.cells))::h):=by intro g e x;(try simp only[go_sem,e]);exact x.out):aw E (.ops all (o::rest)::K) σ h:=
 Ka hop hw hd hx hnt hs fun g hg=>k g (hn g hg) ⟨x g (hn g hg)⟩
theorem yA {t:TypeId} {z:List CV} {X N:Nat→Prop} (q:F) (x:∀g,N g→X g) (hop:o.op=.alloc t:=by exact rfl) (hw:Qx all σ o=some true:=by exact rfl) (hd:Qw E.N o.dst=true:=by exact rfl) (hz:F→Qj E.P t=some z:=by intro f;simp only[go_sem,f]<;>rfl)
  (hn:∀g,g∉h.keys→N g:=by intro g h;replace h:=Qa.ne_of h;(first|dsimp only [Qa.ne,gh] at h|dsimp only [Qa.ne] at h|skip);exact h) (k:F→∀g,N g→X9 (X g)→aw E (.ops all rest::K) (σ.setO o.dst (.c (.optr g 0))) ((g,.cells t z.length (ofL z))::h):=by intro f g e x;(try simp only[go_sem,f,e]);exact x.out):aw E (.ops all (o::rest)::K) σ h:=
 Qef hop hw hd (hz q) fun g hg=>k q g (hn g hg) ⟨x g (hn g hg)⟩
theorem xA {t:TypeId} {z:List CV} {X N:Nat→Prop} (x:∀g,N g→X g) (hop:o.op=.alloc t:=by exact rfl) (hw:Qx all σ o=some true:=by exact rfl) (hd:Qw E.N o.dst=true:=by exact rfl) (hz:Qj E.P t=some z:=by simp only[go_sem]<;>rfl)
  (hn:∀g,g∉h.keys→N g:=by intro g h;replace h:=Qa.ne_of h;(first|dsimp only [Qa.ne,gh] at h|dsimp only [Qa.ne] at h|skip);exact h) (k:∀g,N g→X9 (X g)→aw E (.ops all rest::K) (σ.setO o.dst (.c (.optr g 0))) ((g,.cells t z.length (ofL z))::h):=by intro g e x;(try simp only[go_sem,e]);exact x.out):aw E (.ops all (o::rest)::K) σ h:=
 Qef hop hw hd hz fun g hg=>k g (hn g hg) ⟨x g (hn g hg)⟩
theorem yW {t g off m n:Nat} {ty:TypeId} {ag:Bool} {fc:Nat→CV} {a y:Operand} {v:AV} {h':Qa} (q:F) (k:aw E (.ops all rest::K) σ h') (hop:o.op=.store t a y:=by exact rfl) (hw:Qx all σ o=some true:=by exact rfl) (hd:Qw E.N o.dst=true:=by exact rfl) (hdn:o.dst=none:=by exact rfl) (ha:F→ev σ a=.c (.optr g off):=by intro f;simp only[go_sem,f]<;>rfl) (hx:F→ev σ y=v:=by intro f;simp only[go_sem,f]<;>rfl)
 (hg:F→h.get g=some (.cells ty m fc):=by intro f;simp only[go_sem,f]<;>rfl) (ht:F→XN E.P t=some (ag,n):=by intro f;simp only[go_sem,f]<;>rfl) (hnt:∀xs,v≠.tup xs:=by exact fun _ e=>by cases e) (hs:v.cells.all CV.solid=true:=by first|rfl|exact solid_gs3) (hlen:v.cells.length=n:=by rfl) (hle:off+n≤m:=by first|omega|simp)
 (hh:h.set g (.cells ty m (VL fc off v.cells))=h':=by exact rfl):aw E (.ops all (o::rest)::K) σ h:=KV hop hw hd hdn (ha q) (hx q) (hg q) (ht q) hnt hs hlen hle hh k
theorem xW {t g off m n:Nat} {ty:TypeId} {ag:Bool} {fc:Nat→CV} {a y:Operand} {v:AV} {h':Qa} (k:aw E (.ops all rest::K) σ h') (hop:o.op=.store t a y:=by exact rfl) (hw:Qx all σ o=some true:=by exact rfl) (hd:Qw E.N o.dst=true:=by exact rfl) (hdn:o.dst=none:=by exact rfl) (ha:ev σ a=.c (.optr g off):=by simp only[go_sem]<;>rfl) (hx:ev σ y=v:=by simp only[go_sem]<;>rfl)
 (hg:h.get g=some (.cells ty m fc):=by simp only[go_sem]<;>rfl) (ht:XN E.P t=some (ag,n):=by simp only[go_sem]<;>rfl) (hnt:∀xs,v≠.tup xs:=by exact fun _ e=>by cases e) (hs:v.cells.all CV.solid=true:=by first|rfl|exact solid_gs3) (hlen:v.cells.length=n:=by rfl) (hle:off+n≤m:=by first|omega|simp)
 (hh:h.set g (.cells ty m (VL fc off v.cells))=h':=by exact rfl):aw E (.ops all (o::rest)::K) σ h:=KV hop hw hd hdn ha hx hg ht hnt hs hlen hle hh k
theorem yF {t:Nat} {y z:Code} {b:Bool} (q:F) (k1:b=true→aw E (.code y::K) σ h) (k2:b=false→aw E (.code z::K) σ h) (hb:F→σ.get t=.c (.bool b):=by intro f;simp only[go_sem,f]<;>rfl):aw E (.code (.cond (.tmp t) y z)::K) σ h:=QS (hb q) k1 k2
theorem xF {t:Nat} {y z:Code} {b:Bool} (k1:b=true→aw E (.code y::K) σ h) (k2:b=false→aw E (.code z::K) σ h) (hb:σ.get t=.c (.bool b):=by simp only[go_sem]<;>rfl):aw E (.code (.cond (.tmp t) y z)::K) σ h:=QS hb k1 k2
theorem yP {t:Nat} {y z:Code} (q:F) (k:aw E (.code y::K) σ h) (hb:F→σ.get t=.c (.bool true):=by intro f;simp only[go_sem,f]<;>rfl):aw E (.code (.cond (.tmp t) y z)::K) σ h:=QiD (hb q) k
theorem xP {t:Nat} {y z:Code} (k:aw E (.code y::K) σ h) (hb:σ.get t=.c (.bool true):=by simp only[go_sem]<;>rfl):aw E (.code (.cond (.tmp t) y z)::K) σ h:=QiD hb k
theorem yN {t:Nat} {y z:Code} (q:F) (k:aw E (.code z::K) σ h) (hb:F→σ.get t=.c (.bool false):=by intro f;simp only[go_sem,f]<;>rfl):aw E (.code (.cond (.tmp t) y z)::K) σ h:=QiE (hb q) k
theorem xN {t:Nat} {y z:Code} (k:aw E (.code z::K) σ h) (hb:σ.get t=.c (.bool false):=by simp only[go_sem]<;>rfl):aw E (.code (.cond (.tmp t) y z)::K) σ h:=QiE hb k
end
end
theorem Qet {X G:Prop} (x:X) (k:X9 X→G:=by intro x;refine xG ?_;refine xN ?_;refine xG ?_;refine xV ?_;exact x.out):G:=k ⟨x⟩
theorem Qhm {X G:Prop} (x:X) (k:X9 X→G:=by intro x;refine xG ?_;refine xP ?_;refine xG ?_;exact x.out):G:=k ⟨x⟩
theorem xGT {X G C:Prop} (c:C) (x:X) (k:C→X9 X→G:=by intro c x;refine xG ?_;refine xT c ?_;exact x.out):G:=k c ⟨x⟩
theorem Z1 {X G:Prop} (x:X) (k:X9 X→G:=by intro x;refine xS ?_;refine xG ?_;exact x.out):G:=k ⟨x⟩
theorem UW {X G C:Prop} (c:C) (x:X) (k:C→X9 X→G:=by intro c x;refine xS ?_;refine xG ?_;refine xT c ?_;exact x.out):G:=k c ⟨x⟩
theorem Qdx {X G:Prop} (x:X) (k:X9 X→G:=by intro x;refine xS ?_;refine xG ?_;refine xU ?_;exact x.out):G:=k ⟨x⟩
theorem yGT {F X G C:Prop} (c:C) (f:F) (x:X) (k:C→F→X9 X→G:=by intro c f x;refine yG f ?_;refine yT c f ?_;exact x.out):G:=k c f ⟨x⟩
theorem Kz {F X G C:Prop} (c:C) (f:F) (x:X) (k:C→F→X9 X→G:=by intro c f x;refine yG f ?_;refine yW f ?_;refine yS f ?_;refine yG f ?_;refine yT c f ?_;exact x.out):G:=k c f ⟨x⟩
theorem Xp {F X G:Prop} (f:F) (x:X) (k:F→X9 X→G:=by intro f x;refine yS f ?_;refine yG f ?_;exact x.out):G:=k f ⟨x⟩
theorem Qdy {F X G C:Prop} (c:C) (f:F) (x:X) (k:C→F→X9 X→G:=by intro c f x;refine yS f ?_;refine yG f ?_;refine yT c f ?_;exact x.out):G:=k c f ⟨x⟩
theorem QiK {F X G:Prop} (f:F) (x:X) (k:F→X9 X→G:=by intro f x;refine yS f ?_;refine yG f ?_;refine yV f ?_;exact x.out):G:=k f ⟨x⟩
end Go.AI
namespace Go.Proofs.YtngjgahldnnapaaGreatDoor
open Go.AI Tryz
@[go_sem] theorem Xy:QR prog 75=some (193,1,4):=by kernel_rfl
@[go_sem] theorem QxW:XN prog 193=some (false,1):=by kernel_rfl
@[go_sem] theorem Xt:Qj prog 193=some [.int .u32 0]:=by kernel_rfl
@[go_sem] theorem QxX:Z4 prog 193=some .u32:=by kernel_rfl
@[go_sem] theorem QxY:Z4 prog 39=some .u64:=by kernel_rfl
@[go_sem] theorem QxZ:Z4 prog 3=some .i64:=by kernel_rfl
@[go_sem] theorem QxH:Qdf prog 4=true:=by kernel_rfl
@[go_sem] theorem Qx0:Z4 prog 49=some .i64:=by kernel_rfl
@[go_sem] theorem Qx1:QaT prog 33=true:=by kernel_rfl
@[go_sem] theorem Qg:prog.follows .mixedOrders=true:=by kernel_rfl
end Go.Proofs.YtngjgahldnnapaaGreatDoor
namespace Go.PN
def val:List Nat→Nat
 |[]=>0
 |x::xs=>x+4294967296*val xs
def Qc (n:Nat):List Nat:=if h:n=0 then [] else n%4294967296::Qc (n/4294967296)
termination_by n
decreasing_by omega
theorem QC:Qc 0=[]:=by rw [Qc];simp
theorem X5 {n:Nat} (h:n≠0):Qc n=n%4294967296::Qc (n/4294967296):=by rw [Qc];simp [h]
theorem Qqt {x v:Nat} (hx:x<4294967296) (h:x≠0∨v≠0):Qc (x+4294967296*v)=x::Qc v:=by
 rw [X5 om]
 congr 1
 ·omega
 ·congr 1;omega
theorem Qd (n:Nat):val (Qc n)=n:=by
 induction n using Nat.strongRecOn with
 |ind n ih=>
  by_cases h:n=0
  ·subst h;rw [QC];rfl
  ·rw [X5 h,val,ih _ om];omega
theorem Qr (n:Nat):∀x∈Qc n,x<4294967296:=by
 induction n using Nat.strongRecOn with
 |ind n ih=>
  by_cases h:n=0
  ·subst h;rw [QC];simp
  ·rw [X5 h]
   intro x hx
   simp only [Lb] at hx
   rcases hx with rfl|hx
   ·omega
   ·exact ih _ om x hx
theorem Xl {n:Nat}:Qc n=[]↔n=0:=by
 constructor
 ·intro h
  have:=Qd n
  rw [h] at this
  exact this.symm
 ·rintro rfl;exact QC
theorem Qon {a b:Nat} (h:Qc a=Qc b):a=b:=by rw [←Qd a,h,Qd]
theorem JV {xs:List Nat} (h:∀x∈xs,x=0):val xs=0:=by
 induction xs with
 |nil=>rfl
 |cons x xs ih=>rw [val,ih (fun y hy=>h y (by simp [hy])),h x (by simp)]
theorem QdO:∀(xs:List Nat) (n:Nat),(∀x∈xs,x<4294967296)→n≤xs.length→(∀j,n≤j→xs.getD j 0=0)→(n=0∨xs.getD (n-1) 0≠0)→Qc (val xs)=xs.take n
 |[],n,_,hn,_,_=>by simp at hn;subst hn;simp [val,QC]
 |x::xs,0,hx,_,hz,_=>by
  have:val (x::xs)=0:=JV (fun y hy=>by
   obtain⟨j,hj,rfl⟩:=List.getElem_of_mem hy
   have:=hz j (Lz _)
   rw [Lg,Li hj] at this
   exact this)
  rw [this,QC];rfl
 |x::xs,n+1,hx,hn,hz,hl=>by
  have hx0:x<4294967296:=hx x (by simp)
  have ih:=QdO xs n (fun y hy=>hx y (by simp [hy])) (by simpa using hn) (fun j hj=>by simpa using hz (j+1) om) (by
   cases n with
   |zero=>exact .inl rfl
   |succ n=>right;simpa using hl.resolve_left om)
  rw [val,Qqt hx0,ih]
  ·rfl
  ·cases n with
   |zero=>left;simpa using hl.resolve_left om
   |succ n=>
    right
    intro h0
    rw [h0,QC] at ih
    have:=congrArg List.length ih
    simp at this hn
    omega
def Plain (xs:List Nat):Prop:=xs=[]∨xs.getD (xs.length-1) 0≠0
theorem Qoo {xs:List Nat} (hx:∀x∈xs,x<4294967296) (hp:Plain xs):Qc (val xs)=xs:=by
 have:=QdO xs xs.length hx (Ac _) (fun j hj=>by rw [Lg,List.getElem?_eq_none hj];rfl) (by
  rcases hp with rfl|hp
  ·left;rfl
  ·exact .inr hp)
 rwa [Lk] at this
theorem KY (n:Nat):Plain (Qc n):=by
 induction n using Nat.strongRecOn with
 |ind n ih=>
  by_cases h:n=0
  ·subst h;left;exact QC
  ·right
   rw [X5 h]
   by_cases h2:n/4294967296=0
   ·rw [h2,QC];simp;omega
   ·have:=ih _ (by omega:n/4294967296<n)
    rcases this with e|e
    ·rw [Xl] at e;exact absurd e h2
    ·have hl:0<(Qc (n/4294967296)).length:=by
      rcases Nat.eq_zero_or_pos (Qc (n/4294967296)).length with h0|h0
      ·rw [Lh,Xl] at h0;exact absurd h0 h2
      ·exact h0
     rw [Lc,show(Qc (n/4294967296)).length+1-1=((Qc (n/4294967296)).length-1)+1 from by omega]
     simpa using e
theorem Vp:∀(xs:List Nat),(∀x∈xs,x<4294967296)→val xs<4294967296^xs.length
 |[],_=>by simp [val]
 |x::xs,hx=>by
  have h1:=Vp xs (fun y hy=>hx y (by simp [hy]))
  have h2:=hx x (by simp)
  rw [val,Lc,Nat.pow_succ]
  omega
theorem KA (xs ys:List Nat):val (xs++ys)=val xs+4294967296^xs.length*val ys:=by
 induction xs with
 |nil=>simp [val]
 |cons x xs ih=>rw [Lq,val,val,ih,Lc,Nat.pow_succ,Nat.mul_add,←Nat.add_assoc,←Na,Nc 4294967296 (4294967296^xs.length)]
theorem QI {xs:List Nat} (hx:∀x∈xs,x<4294967296) (i:Nat):xs.getD i 0<4294967296:=by
 rw [Lg]
 cases h:xs[i]? with
 |none=>simp
 |some x=>exact hx x (List.mem_of_getElem? h)
theorem Ve {xs:List Nat} {i:Nat} (h:xs.length≤i):xs.getD i 0=0:=by
 rw [Lg,List.getElem?_eq_none h];rfl
theorem Wm {xs:List Nat} {n j:Nat} (h:j<n):(xs.take n).getD j 0=xs.getD j 0:=by
 rw [Lg,Lg,List.getElem?_take,iP h]
theorem Qy (xs:List Nat) (i:Nat):val (xs.take (i+1))=val (xs.take i)+4294967296^i*xs.getD i 0:=by
 by_cases h:i<xs.length
 ·rw [List.take_succ_eq_append_getElem h,KA,Lg,Li h]
  simp [val,List.length_take,Nat.min_eq_left (Ll h)]
 ·rw [Ve om,Ly om,Ly om];simp
theorem QiL (zs:List Nat) (i v:Nat):(zs.set i v).take i=zs.take i:=by
 apply List.ext_getElem?
 intro j
 simp only [List.getElem?_take]
 by_cases h:j<i
 ·rw [iP h,iP h,List.getElem?_set_ne om]
 ·rw [iN h,iN h]
theorem getD_set {zs:List Nat} {i v:Nat} (h:i<zs.length):(zs.set i v).getD i 0=v:=by
 simp [Lg,h]
theorem WY {zs:List Nat} {i v:Nat} (h:i<zs.length):val ((zs.set i v).take (i+1))=val (zs.take i)+4294967296^i*v:=by
 rw [Qy,QiL,getD_set h]
theorem UX (n:Nat):val (List.replicate n 0)=0:=JV (fun x hx=>(List.mem_replicate.1 hx).2)
theorem Jc {zs:List Nat} {i v:Nat} (hz:∀x∈zs,x<4294967296) (hv:v<4294967296):∀x∈zs.set i v,x<4294967296:=fun x hx=>by
 rcases List.mem_or_eq_of_mem_set hx with h|h
 ·exact hz x h
 ·omega
theorem YS (n:Nat):∀x∈List.replicate n 0,x<4294967296:=fun x hx=>by rw [(List.mem_replicate.1 hx).2];omega
def ZQ (a b:Nat):Int:=if a<b then-1 else if a=b then 0 else 1
theorem Ym (n:Nat):n<4294967296^(Qc n).length:=by
 have:=Vp (Qc n) (Qr n)
 rwa [Qd] at this
theorem X6 {n k:Nat} (h:n<4294967296^k):(Qc n).length≤k:=by
 induction k generalizing n with
 |zero=>have:n=0:=by simpa using h
        subst this;rw [QC];simp
 |succ k ih=>
  by_cases h0:n=0
  ·subst h0;rw [QC];simp
  ·rw [X5 h0,Lc]
   have:= @ih (n/4294967296) (by rw [Nat.pow_succ] at h;exact Nat.div_lt_of_lt_mul om)
   omega
theorem Qby {n:Nat} (h:n≠0):4294967296^((Qc n).length-1)≤n:=by
 rcases Nat.lt_or_ge n (4294967296^((Qc n).length-1)) with hlt|hge
 ·have:=X6 hlt
  have hl:(Qc n).length≠0:=fun e=>h (Xl.1 (Lh.1 e))
  omega
 ·exact hge
theorem QV (xs:List Nat) (hx:∀x∈xs,x<4294967296):(Qc (val xs)).length≤xs.length:=X6 (Vp xs hx)
theorem QL {a b:Nat} (h:a≤b):(Qc a).length≤(Qc b).length:=X6 (Nat.lt_of_le_of_lt h (Ym b))
theorem QiM {a b:Nat} (h:(Qc a).length<(Qc b).length):ZQ a b= -1:=by
 have:a<b:=by
  rcases Nat.lt_or_ge a b with h1|h1
  ·exact h1
  ·have:=QL h1;omega
 simp [ZQ,this]
theorem QiN {a b:Nat} (h:(Qc b).length<(Qc a).length):ZQ a b=1:=by
 have:b<a:=by
  rcases Nat.lt_or_ge b a with h1|h1
  ·exact h1
  ·have:=QL h1;omega
 unfold ZQ
 rw [iN om,iN om]
theorem Qcz (xs:List Nat) {i:Nat} (h:i<xs.length):xs.drop i=xs.getD i 0::xs.drop (i+1):=by
 rw [List.drop_eq_getElem_cons h,Lg,Li h];rfl
theorem KZ (xs:List Nat) (i:Nat):val (xs.drop i)=xs.getD i 0+4294967296*val (xs.drop (i+1)):=by
 by_cases h:i<xs.length
 ·rw [List.drop_eq_getElem_cons h,val,Lg,Li h];rfl
 ·rw [Ve om,List.drop_eq_nil_of_le om,List.drop_eq_nil_of_le om];rfl
theorem YP (xs:List Nat) (i:Nat) (h:i≤xs.length):val xs=val (xs.take i)+4294967296^i*val (xs.drop i):=by
 have:=KA (xs.take i) (xs.drop i)
 rwa [List.take_append_drop,List.length_take,Nat.min_eq_left h] at this
theorem XO (xs:List Nat) (hx:∀x∈xs,x<4294967296) (i:Nat) (h:i≤xs.length):val (xs.take i)<4294967296^i:=by
 have:=Vp (xs.take i) (fun x hm=>hx x (List.mem_of_mem_take hm))
 rwa [List.length_take,Nat.min_eq_left h] at this
theorem Qmw {xs ys:List Nat} {i:Nat} (hx:∀x∈xs,x<4294967296) (hy:∀x∈ys,x<4294967296) (h1:i<xs.length) (h2:i<ys.length) (hd:xs.drop (i+1)=ys.drop (i+1)) (hlt:xs.getD i 0<ys.getD i 0):val xs<val ys:=by
 rw [YP xs i om,YP ys i om,KZ xs i,KZ ys i,hd]
 have h3:=XO xs hx i om
 have h5:4294967296^i*(xs.getD i 0+4294967296*val (ys.drop (i+1))+1)≤4294967296^i*(ys.getD i 0+4294967296*val (ys.drop (i+1))):=Nat.mul_le_mul_left _ om
 rw [Nat.mul_add,Ad] at h5
 omega
theorem Qeu {xs ys zs:List Nat} {i c:Nat} (hi:i<zs.length) (h:val (zs.take i)+4294967296^i*c=val (xs.take i)+val (ys.take i)):
  val ((zs.set i ((c+(xs.getD i 0+ys.getD i 0))%4294967296)).take (i+1))+4294967296^(i+1)*((c+(xs.getD i 0+ys.getD i 0))/4294967296)=val (xs.take (i+1))+val (ys.take (i+1)):=by
 rw [WY hi,Qy,Qy,Nat.pow_succ]
 generalize xs.getD i 0=x at*
 generalize ys.getD i 0=y at*
 have e:(c+(x+y))%4294967296+4294967296*((c+(x+y))/4294967296)=c+(x+y):=Nat.mod_add_div _ _
 have e2:4294967296^i*((c+(x+y))%4294967296)+4294967296^i*4294967296*((c+(x+y))/4294967296)=4294967296^i*(c+(x+y)):=by
  rw [Na,←Nat.mul_add,e]
 rw [Nat.mul_add,Nat.mul_add] at e2
 omega
theorem Qmx {xs ys zs:List Nat} {c:Nat} (hx:∀x∈xs,x<4294967296) (hy:∀x∈ys,x<4294967296) (hl:zs.length=max xs.length ys.length+1)
  (h:val (zs.take zs.length)+4294967296^zs.length*c=val (xs.take zs.length)+val (ys.take zs.length)):val zs=val xs+val ys:=by
 rw [Lk,Ly om,Ly om] at h
 have h1:=Vp xs hx
 have h2:=Vp ys hy
 have h3:(4294967296:Nat)^xs.length≤4294967296^(max xs.length ys.length):=Nat.pow_le_pow_right om om
 have h4:(4294967296:Nat)^ys.length≤4294967296^(max xs.length ys.length):=Nat.pow_le_pow_right om om
 have h5:(4294967296:Nat)^zs.length=4294967296^(max xs.length ys.length)*4294967296:=by rw [hl,Nat.pow_succ]
 rcases Nat.eq_zero_or_pos c with rfl|hc
 ·simpa using h
 ·have h6:4294967296^zs.length*1≤4294967296^zs.length*c:=Nat.mul_le_mul_left _ hc
  have h7:0<4294967296^(max xs.length ys.length):=Nat.pow_pos om
  omega
def JW (x y b:Nat):Nat:=(x+18446744073709551616-y-b)%18446744073709551616
theorem QiO {xs ys zs:List Nat} {i b:Nat} (hi:i<zs.length) (hx:xs.getD i 0<4294967296) (hy:ys.getD i 0<4294967296) (hb:b≤1) (h:val (zs.take i)+val (ys.take i)=val (xs.take i)+4294967296^i*b):
  val ((zs.set i (JW (xs.getD i 0) (ys.getD i 0) b%4294967296)).take (i+1))+val (ys.take (i+1))=val (xs.take (i+1))+4294967296^(i+1)*(JW (xs.getD i 0) (ys.getD i 0) b/9223372036854775808)∧JW (xs.getD i 0) (ys.getD i 0) b/9223372036854775808≤1:=by
 rw [WY hi,Qy,Qy,Nat.pow_succ]
 generalize xs.getD i 0=x at*
 generalize ys.getD i 0=y at*
 have hd:JW x y b%4294967296+(y+b)=x+4294967296*(JW x y b/9223372036854775808)∧JW x y b/9223372036854775808≤1:=by
  unfold JW
  rcases Nat.lt_or_ge x (y+b) with h1|h1<;>omega
 generalize JW x y b%4294967296=v at*
 generalize JW x y b/9223372036854775808=b' at*
 have e2:4294967296^i*(v+(y+b))=4294967296^i*(x+4294967296*b'):=by rw [hd.1]
 rw [Nat.mul_add,Nat.mul_add,Nat.mul_add,←Na] at e2
 exact⟨by omega,hd.2⟩
theorem Qmy {xs ys zs:List Nat} {b:Nat} (hx:∀x∈xs,x<4294967296) (hz:∀x∈zs,x<4294967296) (hl:zs.length=xs.length) (hle:val ys≤val xs)
  (h:val (zs.take xs.length)+val (ys.take xs.length)=val (xs.take xs.length)+4294967296^xs.length*b):val zs=val xs-val ys:=by
 rw [←hl,Lk,hl,Lk] at h
 have h1:=Vp xs hx
 have h2:=Vp zs hz
 rw [hl] at h2
 have h3:val (ys.take xs.length)=val ys:=by
  by_cases hc:xs.length≤ys.length
  ·have:=YP ys xs.length hc
   rcases Nat.eq_zero_or_pos (val (ys.drop xs.length)) with h0|h0
   ·rw [h0] at this;omega
   ·have:=Nat.mul_le_mul_left (4294967296^xs.length) h0
    omega
  ·rw [Ly om]
 rcases Nat.eq_zero_or_pos b with rfl|hb
 ·omega
 ·have:=Nat.mul_le_mul_left (4294967296^xs.length) hb
  omega
theorem QdP {zs:List Nat} {j v:Nat} (h:j<zs.length):val (zs.set j v)+4294967296^j*zs.getD j 0=val zs+4294967296^j*v:=by
 have h1:=YP (zs.set j v) j (by simp;omega)
 have h2:=YP zs j om
 rw [QiL] at h1
 have h3:=KZ (zs.set j v) j
 have h4:=KZ zs j
 have h5:(zs.set j v).drop (j+1)=zs.drop (j+1):=by
  apply List.ext_getElem?
  intro q
  rw [List.getElem?_drop,List.getElem?_drop,List.getElem?_set_ne om]
 rw [getD_set h,h5] at h3
 rw [h3] at h1
 rw [h4] at h2
 rw [h1,h2,Nat.mul_add,Nat.mul_add]
 omega
theorem Jd {zs:List Nat} {m j:Nat} (h:val zs<4294967296^m) (hj:m≤j):zs.getD j 0=0:=by
 by_cases hl:j<zs.length
 ·have h1:=YP zs j om
  rw [KZ zs j] at h1
  rcases Nat.eq_zero_or_pos (zs.getD j 0) with h0|h0
  ·exact h0
  ·have h2:(4294967296:Nat)^m≤4294967296^j:=Nat.pow_le_pow_right om hj
   have h3:=Nat.mul_le_mul_left (4294967296^j) (show 1≤zs.getD j 0+4294967296*val (zs.drop (j+1)) from by omega)
   omega
 ·exact Ve om
theorem getD_set_ne {zs:List Nat} {i j v:Nat} (h:i≠j):(zs.set i v).getD j 0=zs.getD j 0:=by
 rw [Lg,Lg,List.getElem?_set_ne h]
theorem QiP {zs ys:List Nat} {i k c x V:Nat} (hk:i+k<zs.length) (h:val zs+4294967296^(i+k)*c=V+4294967296^i*(x*val (ys.take k))):
  val (zs.set (i+k) ((c+(x*ys.getD k 0+zs.getD (i+k) 0))%4294967296))+4294967296^(i+(k+1))*((c+(x*ys.getD k 0+zs.getD (i+k) 0))/4294967296)=V+4294967296^i*(x*val (ys.take (k+1))):=by
 have h1:=QdP (v:=(c+(x*ys.getD k 0+zs.getD (i+k) 0))%4294967296) hk
 generalize zs.getD (i+k) 0=z at*
 have e:(c+(x*ys.getD k 0+z))%4294967296+4294967296*((c+(x*ys.getD k 0+z))/4294967296)=c+(x*ys.getD k 0+z):=Nat.mod_add_div _ _
 have e2:4294967296^(i+k)*((c+(x*ys.getD k 0+z))%4294967296)+4294967296^(i+(k+1))*((c+(x*ys.getD k 0+z))/4294967296)=4294967296^(i+k)*c+4294967296^(i+k)*(x*ys.getD k 0)+4294967296^(i+k)*z:=by
  rw [show i+(k+1)=(i+k)+1 from by omega,Nat.pow_succ,Na,←Nat.mul_add,e,Nat.mul_add,Nat.mul_add,Nat.add_assoc]
 have e3:4294967296^i*(x*val (ys.take (k+1)))=4294967296^i*(x*val (ys.take k))+4294967296^(i+k)*(x*ys.getD k 0):=by
  rw [Qy,Nat.mul_add,Nat.mul_add,Nat.pow_add,Nat.mul_left_comm x,Na]
 omega
theorem Wn {x y:Nat} (hx:x<4294967296) (hy:y<4294967296):x*y≤18446744065119617025:=by
 have:=Nat.mul_le_mul (show x≤4294967295 from by omega) (show y≤4294967295 from by omega)
 omega
theorem Qev {zs:List Nat} {i v:Nat} (h:i<zs.length):(zs.set i v).drop i=v::zs.drop (i+1):=by
 rw [Qcz _ (by simpa using h),getD_set h]
 congr 1
 apply List.ext_getElem?
 intro q
 rw [List.getElem?_drop,List.getElem?_drop,List.getElem?_set_ne om]
theorem QkX {xs zs:List Nat} {m b r:Nat} (hb:0<b) (hm:m<zs.length) (h:val (xs.drop (m+1))=b*val (zs.drop (m+1))+r):
  val (xs.drop m)=b*val ((zs.set m ((r*4294967296+xs.getD m 0)/b)).drop m)+(r*4294967296+xs.getD m 0)%b:=by
 rw [KZ,Qev hm,val,h]
 generalize xs.getD m 0=x
 have e:=Nat.div_add_mod (r*4294967296+x) b
 generalize (r*4294967296+x)/b=q at*
 generalize (r*4294967296+x)%b=t at*
 have e2:b*(q+4294967296*val (zs.drop (m+1)))=b*q+4294967296*(b*val (zs.drop (m+1))):=by
  rw [Nat.mul_add,Nat.mul_left_comm]
 rw [e2]
 omega
end Go.PN
namespace Go.AI
theorem fA {P:Program} {f:FuncId} {fn:Func} {c:Code} {args:List AV} {r:AV} {X:Vk→Prop} (hf:P.funcs[f]?=some fn) (x:∀C,(∀b,¬C.own0 b)→X C) (hb:fn.body=some c:=by rfl) (hn:(fn.name== "runtime.NumGoroutine")=false:=by rfl) (hl:args.length≤fn.ntmps:=by exact of_decide_eq_true (by kernel_rfl))
 (k:∀C,X9 (X C)→aw (On P fn C r) [.code c] (Y8 0 args) []:=by intro C x;simp only [Y8,Nat.reduceAdd];exact x.out):Fa P f args r:=QaV hf hb hn hl fun C h=>k C ⟨x C h⟩
theorem fH {P:Program} {f:FuncId} {fn:Func} {c:Code} {hc:Qa} {args:List AV} {Q:AV→Qa→Prop} {X:Vk→Prop} (hf:P.funcs[f]?=some fn) (x:∀C:Vk,(∀b,C.own0 b↔b∈hc.keys)→X C) (hb:fn.body=some c:=by rfl) (hn:(fn.name== "runtime.NumGoroutine")=false:=by rfl) (hl:args.length≤fn.ntmps:=by exact of_decide_eq_true (by kernel_rfl))
 (k:∀C,X9 (X C)→aw (Ky P fn C Q) [.code c] (Y8 0 args) hc:=by intro C x;simp only [Y8,Nat.reduceAdd];exact x.out):Fh P f hc args Q:=QaX hf hb hn hl fun C h=>k C ⟨x C h⟩
theorem Qmz (a:Nat):(BitVec.ofInt 64 (a:Int)).toNat=a%18446744073709551616:=by
 rw [BitVec.ofInt_natCast,BitVec.toNat_ofNat]
theorem QkY (a b:Nat) (ha:a<18446744073709551616) (hb:b<18446744073709551616):orZ .u64 (a:Int) (b:Int)=((a|||b:Nat):Int):=by
 have hx:a|||b<2^64:=Nat.or_lt_two_pow om om
 rw [QkL]
 show IntKind.u64.wrap (((BitVec.ofInt 64 (a:Int))|||(BitVec.ofInt 64 (b:Int))).toNat:Int)=_
 rw [BitVec.toNat_or,Qmz,Qmz,Nat.mod_eq_of_lt ha,Nat.mod_eq_of_lt hb,IntKind.wrap_u64]
 omega
theorem QmA (x y:Nat) (hy:y<4294967296):x*4294967296|||y=x*4294967296+y:=by
 have:=Nat.two_pow_add_eq_or_of_lt (i:=32) (b:=y) om x
 rw [Nc x,←this]
theorem Qdl (x y:Nat) (hx:x<4294967296) (hy:y<4294967296):orZ .u64 ((x*4294967296:Nat):Int) (y:Int)=((x*4294967296+y:Nat):Int):=by
 rw [QkY _ _ om om,QmA x y hy]
def j32 (x y:Nat):Nat:=x*4294967296+y
theorem Qa2 (x y:Nat) (hx:x<4294967296) (hy:y<4294967296):orZ .u64 ((x*4294967296:Nat):Int) (y:Int)=((j32 x y:Nat):Int):=Qdl x y hx hy
theorem WZ (x y:Nat) (hx:x<4294967296) (hy:y<4294967296):orZ .u64 (y:Int) ((x*4294967296:Nat):Int)=((x*4294967296+y:Nat):Int):=by
 rw [QkY _ _ om om,Nat.or_comm,QmA x y hy]
theorem Qwk (a b:Nat) (ha:a<4294967296) (hb:b<4294967296):orZ .u32 (a:Int) (b:Int)=((a|||b:Nat):Int):=by
 have hx:a|||b<2^32:=Nat.or_lt_two_pow om om
 rw [QkL]
 show IntKind.u32.wrap (((BitVec.ofInt 32 (a:Int))|||(BitVec.ofInt 32 (b:Int))).toNat:Int)=_
 rw [BitVec.toNat_or,BitVec.ofInt_natCast,BitVec.ofInt_natCast,BitVec.toNat_ofNat,BitVec.toNat_ofNat,Nat.mod_eq_of_lt om,Nat.mod_eq_of_lt om,IntKind.wrap_u32]
 omega
theorem VO (x:Nat) (hx:x<4294967296):Qod .u64 (x:Int) 32=((x*4294967296:Nat):Int):=by
 rw [QdK]
 show IntKind.u64.wrap ((x:Int)*4294967296)=_
 rw [IntKind.wrap_u64];omega
theorem W0 (y:Nat):(y:Int)/4294967296=((y/4294967296:Nat):Int):=by omega
theorem Wo {n:Nat} (hn:n≤32):2^n≤4294967296:=Nat.pow_le_pow_right (n:=2) om hn
theorem QmB (x n:Nat) (hx:x<4294967296) (hn:n≤32):Qod .u64 (x:Int) (n:Int)=((x*2^n:Nat):Int):=by
 have h1:=Wo hn
 have h2:x*2^n≤4294967295*4294967296:=Nat.mul_le_mul om h1
 rw [QdK]
 show IntKind.u64.wrap ((x:Int)*2^(min (n:Int).toNat 64))=_
 rw [Int.toNat_natCast,Nat.min_eq_left om,IntKind.wrap_u64]
 have e:(x:Int)*2^n=((x*2^n:Nat):Int):=by simp
 rw [e]
 omega
theorem QmC (x n:Nat) (hn:n≤64):Qcl .u64 (x:Int) (n:Int)=((x/2^n:Nat):Int):=by
 rw [UB]
 show(x:Int).fdiv (2^(min (n:Int).toNat 64))=_
 rw [Int.toNat_natCast,Nat.min_eq_left hn]
 have e:(2:Int)^n=((2^n:Nat):Int):=by simp
 rw [e,Int.fdiv_eq_ediv_of_nonneg _ (Int.natCast_nonneg _)]
 rfl
theorem Qhn (a b:Nat) (ha:a<18446744073709551616):QkN .u64 (a:Int) (b:Int)=((a/b:Nat):Int):=by
 rw [QdJ]
 show IntKind.u64.wrap ((a:Int).tdiv b)=_
 have h:=Nat.div_le_self a b
 have e:(a:Int).tdiv (b:Int)=((a/b:Nat):Int):=rfl
 rw [e,IntKind.wrap_u64]
 generalize a/b=q at*
 omega
theorem Qho (a b:Nat):Qth (a:Int) (b:Int)=((a%b:Nat):Int):=by rw [Qmh];exact Int.ofNat_tmod a b
end Go.AI
namespace Go.Proofs.YtngjgahldnnapaaGreatDoor
open Go.AI Go.PN Tryz
attribute [local irreducible] aw Fa ZN ZZ Fh YE
theorem KQ (xs:List Nat) (i:Nat) (hx:∀x∈xs,x<4294967296):Fa prog 378 [.c (ws false xs),.c (.int .i64 i)] (.c (.int .u64 (xs.getD i 0:Nat))):=by
 refine QaV func378 rfl rfl (by simp [ntmps378]) fun C hC=> ?_
 have hb:=QI hx i
 simp only [Y8,Nat.reduceAdd]
 refine xG ?_
 refine QS eE (fun hb=> ?_) (fun hb=> ?_)
 ·simp only [Dq] at hb
  refine xGT hC ?_
  exact .one (.c (Qo rfl))
 ·simp only [decide_eq_false_iff_not] at hb
  refine xGT hC ?_
  refine .one (.c (Qo ?_))
  rw [Ve om];rfl
theorem ZX (xs:List Nat) (hx:∀x∈xs,x<4294967296) (hl:xs.length≤1099511627776):Fa prog 208 [.c (ws false xs)] (.c (ws true (Qc (val xs)))):=by
 refine fA func208 fun C hC=>?_
 refine xG ?_
 refine Qh (fun m:Nat=>[(0,.c (ws false xs)),(3,.c (.int .i64 m))]) (fun _=>[]) (fun m=>m≤xs.length∧(∀j,m≤j→xs.getD j 0=0)) id xs.length eB zZ ⟨Ac _,fun j hj=>Ve hj⟩ ?_
 rintro m ⟨hm,hz⟩
 have hend:(m=0∨xs.getD (m-1) 0≠0)→Qc (val xs)=xs.take m:=QdO xs m hx hm hz
 by_cases h0:0<m
 ·have hd:decide ((m:Int)>0)=true:=by simp;omega
  apply Yd
  apply Yd
  refine QvK true (by simp only [go_sem,Nat.reduceEqDiff,reduceIte,hd]<;>rfl) (by(try simp only [XH])<;>and_intros<;>first|exact True.intro|omega|trivial) rfl ?_
  have e1:((m:Int)-1).toNat=m-1:=by omega
  refine QS eE (fun hb=> ?_) (fun hb=> ?_)
  ·have hb':xs.getD (m-1) 0=0:=by simpa using hb
   refine xG ?_
   refine Qb ⟨m-1,by simp only [id];omega,eB,zZ,by omega,fun j hj=> ?_⟩
   by_cases hjm:j=m-1
   ·rw [hjm];exact hb'
   ·exact hz j om
  ·have hb':xs.getD (m-1) 0≠0:=by simpa using hb
   have hm0:((m:Int)==0)=false:=by simp;omega
   refine xG ?_
   refine QS eE (fun hb=> ?_) (fun hb=> ?_)
   ·rw [hm0] at hb;cases hb
   ·refine xG ?_
    refine Qn (xs:=[]) (cells:=[]) rfl rfl rfl Xy (by rw [Qdw,Xt];rfl) rfl om om (by simp) rfl fun g hg=> ?_
    simp only [go_sem,Nat.reduceEqDiff,reduceIte]
    refine xG ?_
    refine YC rfl rfl rfl Xy Xt rfl om eE eE om eE .row (fun _ _=>rfl) h0 qc om eE fun g' hg'=> ?_
    simp only [go_sem,Nat.reduceEqDiff,reduceIte]
    refine xGT hC ?_
    refine .one (.c ?_)
    rw [hend (.inr hb')]
    refine VW eE om (by simp;omega) (fun j hj=> ?_)
    simp only [Xq,Nat.not_lt_zero,if_false,Nat.sub_zero,Nz]
    rw [Wm hj]
 ·have hm0:m=0:=by omega
  subst hm0
  have hd:decide (((0:Nat):Int)>0)=false:=by simp
  apply Yd
  apply Yd
  refine QvK true (by simp only [go_sem,Nat.reduceEqDiff,reduceIte,hd]<;>rfl) (by(try simp only [XH])<;>and_intros<;>first|exact True.intro|omega|trivial) rfl ?_
  refine QS eE (fun hb=> ?_) (fun _=> ?_)
  ·cases hb
  refine xG ?_
  refine QS eE (fun _=> ?_) (fun hb=> ?_)
  ·refine xGT hC ?_
   refine .one (.c ?_)
   rw [hend (.inl rfl)]
   exact .nils
  ·cases hb
theorem QiQ (xs:List Nat) (b:Nat) (hx:∀x∈xs,x<4294967296) (hlx:xs.length≤68719476736) (hb0:0<b) (hb:b<4294967296):
  Fa prog 209 [.c (ws false xs),.c (.int .u32 b)] (.tup [.c (ws true (Qc (val xs/b))),.c (.int .u32 (val xs%b:Nat))]):=by
 refine fA func209 fun C hC=>?_
 refine xG ?_
 refine Jt (n:=xs.length) (c:=xs.length) rfl rfl rfl Xy Xt rfl om eE eE rfl rfl om om om fun g hg=> ?_
 rw [UD xs.length]
 refine Z1 ?_
 refine Qh (fun x:Nat×Nat×List Nat=>[(0,.c (ws false xs)),(1,.c (.int .u32 b)),(6,.c (.osl g 1 0 xs.length)),(7,.c (.int .u64 x.2.1)),(8,.c (.int .i64 ((x.1:Int)-1)))]) (fun x=>[(g,.cells 193 xs.length (wf x.2.2))])
  (fun x=>x.1≤xs.length∧x.2.1<b∧x.2.2.length=xs.length∧(∀y∈x.2.2,y<4294967296)∧val (xs.drop x.1)=b*val (x.2.2.drop x.1)+x.2.1) (fun x=>x.1) (xs.length,0,List.replicate xs.length 0) eB zZ
  ⟨Ac _,hb0,by simp,YS _,by simp [val]⟩ ?_
 rintro ⟨m,r,zs⟩ ⟨hm,hr,hzl,hz,hv⟩
 dsimp only at hm hr hzl hz hv⊢
 refine xG ?_
 refine QS eE (fun hb1=> ?_) (fun hb1=> ?_)
 ·have hm1:1≤m:=dT hb1
  have e1:((m:Int)-1).toNat=m-1:=by omega
  have hxi:=QI hx (m-1)
  have hst:=QkX (xs:=xs) (zs:=zs) (m:=m-1) (r:=r) hb0 om (by rw [show m-1+1=m from by omega];exact hv)
  refine xG ?_
  rw [VO r om,Qdl r _ om hxi]
  have hs:r*4294967296+xs.getD (m-1) 0<b*4294967296:=by
   have:(r+1)*4294967296≤b*4294967296:=Nm _ hr
   omega
  have hq:(r*4294967296+xs.getD (m-1) 0)/b<4294967296:=Nat.div_lt_of_lt_mul hs
  have hrm:(r*4294967296+xs.getD (m-1) 0)%b<b:=Nat.mod_lt _ hb0
  have hsl:r*4294967296+xs.getD (m-1) 0<18446744073709551616:=by omega
  generalize r*4294967296+xs.getD (m-1) 0=s at hs hq hrm hsl hst⊢
  refine xG ?_
  rw [Qhn s b hsl,QO,Nat.mod_eq_of_lt hq]
  refine xW ?_
  refine xS ?_
  rw [Vd om]
  refine xG ?_
  rw [Qho]
  refine Qb ⟨(m-1,s%b,zs.set (m-1) (s/b)),by dsimp only;omega,eB,zZ,by dsimp only;omega,hrm,by simpa using hzl,Jc hz hq,hst⟩
 ·have hm0:m=0:=dF hb1
  subst hm0
  refine xG ?_
  refine Qu (ZX zs hz om) rfl rfl rfl (by refine xS ?_;exact .c (Yt eE om om (fun j _=>by rw [Nz];rfl))) ?_
  refine UW hC ?_
  simp only [List.drop_zero] at hv
  have e1:val xs/b=val zs:=by rw [hv,Nat.mul_add_div hb0,Nat.div_eq_of_lt hr,Nat.add_zero]
  have e2:val xs%b=r:=by rw [hv,Nat.mul_add_mod,Nat.mod_eq_of_lt hr]
  rw [e1,e2,QO,Nat.mod_eq_of_lt om]
  exact .tup ⟨.c Xc,.c (.int _ _),trivial⟩
end Go.Proofs.YtngjgahldnnapaaGreatDoor
