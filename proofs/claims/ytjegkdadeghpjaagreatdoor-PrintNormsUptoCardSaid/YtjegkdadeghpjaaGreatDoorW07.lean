/- Parts of one proof, laid by a program. -/
import Derived.Test.YtjegkdadeghpjaaGreatDoorW00
import Derived.Test.YtjegkdadeghpjaaGreatDoorW06
import Derived.Lib.MakeNoZero
import Derived.Sort.Statements
import Derived.Sort.Row
import Derived.Sort.Grow
import Derived.Deep.Draws
import Derived.Shelf.SlSortCmp.WholeK
import Derived.Lib.Bytealg
set_option linter.unusedSimpArgs false
set_option linter.unusedVariables false
set_option maxRecDepth 100000
set_option maxHeartbeats 12800000
namespace Go.AI
section
def yE (P:Program) (t:TypeId):Option (List Value):=((P.info? t).bind (·.zero)).map fun z=>z.cells.toList
theorem FH {P:Program} {t:TypeId} {vs:List Value} (hz:yE P t=some vs):∃i v,P.info? t=some i∧i.zero=some v∧vs=v.cells.toList:=by
 unfold yE at hz
 cases hi:P.info? t with
 |none=>simp [hi] at hz
 |some i=>
  cases hv:i.zero with
  |none=>simp [hi,hv] at hz
  |some v=>simp [hi,hv] at hz;exact⟨i,v,rfl,hv,hz.symm⟩
theorem Bs (S:Bool→Nat→Prop) (w:World):∀l:List Value,XV S w (l.map CV.raw) l
 |[]=>trivial
 |v::l=>⟨rfl,Bs S w l⟩
section
variable {E : Vj} {K : List It} {σ σ' : Sl} {h : Qa} {all rest l : List Oper} {o : Oper}
theorem GR {t:TypeId} {vs:List Value} (au:o.op=.alloc t) (hw:Qu all σ o=some true) (hd:Qs E.N o.dst=true) (hz:yE E.P t=some vs)
  (k:∀g,g∉h.keys→aw E (.ops all rest::K) (σ.az o.dst (.c (.aj g 0))) ((g,.cells t (vs.map CV.raw).length (ao (vs.map CV.raw)))::h)):aw E (.ops all (o::rest)::K) σ h:=by
 refine UW (r:=fun g=>.c (.aj g 0)) (ob:=.cells t (vs.map CV.raw).length (ao (vs.map CV.raw))) hw hd (fun a w s=> ?_) k
 obtain⟨i,v,hi,hv,rfl⟩:=FH hz
 refine⟨.pointer (some ⟨w.heap.size,0,none⟩),w.alloc (.cells v.cells.toList.toArray t),?_,Fr.alloc _ _ _,by simp,Uh (Bs _ _ _),rfl⟩
 simp only [execOp,au,Instr.alloc,zeroValue,typeInfo,newVar,newRow,Sem.run_bind]
 simp [hi,hv]
theorem QB.gL {P:Program} {ρ:Operand→AV} {pt it:TypeId} {p x:Operand} (hp:ρ p=.c (.raw (.pointer none))) (hx:ρ x=.c (.int .i64 0)):QB P h ρ (.call {callee:=.builtin .unsafeString,args:= #[p,x],argTypes:= #[pt,it]}) (.c (.str ⟨#[]⟩)):=fun S w e _ ho _=>by
 have h1:e p=.pointer none:=by have:=ho p (by simp [Op.operands,Call.operands]);rw [hp] at this;exact this
 have h2:e x=.int .i64 0:=by have:=ho x (by simp [Op.operands,Call.operands]);rw [hx] at this;exact this
 refine⟨.string .empty,fun o au=> ?_,rfl⟩
 have:=Lib.run_unsafeString_none (P:=P) (w:=w) pt it o.type none
 simp [execOp,au,resolve,invoke,Go.builtin,h1,h2,this]
theorem Fr.freeze (w:World) (g n:Nat):Fr (fun b=>b=g) w (w.freeze ⟨g,0,none⟩ n):=by
 unfold World.freeze
 split
 ·exact Fr.refl _ _
 ·refine⟨rfl,rfl,rfl,by simp,Ac _,fun b _ hn=> ?_,fun g1 m hh=> ?_⟩
  ·simp only [Array.getElem?_modify]
   rw [iN (fun e=>hn e.symm)]
  ·obtain⟨cs,ty,⟨fr,hc⟩,hs⟩:=hh
   by_cases e:g=g1
   ·subst e
    refine⟨cs,ty,?_,hs⟩
    simp only [Array.getElem?_modify,hc]
    simp
   ·refine⟨cs,ty,⟨fr,?_⟩,hs⟩
    simp only [Array.getElem?_modify]
    rw [iN e];exact hc
theorem St.drop {N:Nat} {C:ZX} {a:Act} {w w':World} {g:Nat} (s:St N C σ h a w) (hg:g∈h.keys) (bd:Fr (fun b=>b=g) w w'):St N C σ (h.del g) a w':=by
 have dV:∀b,b∈(h.del g).keys→b∈h.keys:=fun b hb=>by
  obtain⟨p,hp,e⟩:=List.mem_map.1 hb
  exact List.mem_map.2 ⟨p,(Qa.db h g).subset hp,e⟩
 have kp:Yn (QH C h w) (QH C (h.del g) w') w w':=
  ⟨fun t b hb=>⟨hb.1,Ae hb.2.1 bd.size,fun hm=>hb.2.2 (dV b hm)⟩,fun t b hb=>bd.block b hb.2.1 (fun e=>hb.2.2 (e▸hg)),bd.has⟩
 refine⟨s.size,s.defers,fun t=>VY.aT kp (s.bC t),fun g1 o1 hm=> ?_,((Qa.db h g).map _).nodup s.nodup,fun g1 jU=>s.keys g1 (dV _ jU),?_⟩
 ·have h1:=s.heap g1 o1 ((Qa.db h g).subset hm)
  have jI:g1∈(h.del g).keys:=List.mem_map.2 ⟨(g1,o1),hm,rfl⟩
  have aK:g1≠g:=fun e=>Qa.fT h g s.nodup (e▸jI)
  exact YN.aT kp (bd.block g1 h1.lt aK) h1
 ·refine s.frame.trans bd (fun x hx aD=> ?_)
  subst hx
  exact(s.keys _ hg).resolve_right om
theorem SC {pt it e:TypeId} {p x:Operand} {g m:Nat} {f:Nat→CV} {bs:List UInt8} {h':Qa} (au:o.op=.call {callee:=.builtin .unsafeString,args:= #[p,x],argTypes:= #[pt,it]}) (hw:Qu all σ o=some true) (hd:Qs E.N o.dst=true)
  (EB:E.P.underlying pt=some (.pointer e)) (hc:E.P.cellsOf e=1) (hp:ev σ p=.c (.aj g 0)) (hx:ev σ x=.c (.int .i64 bs.length)) (hg:h.get g=some (.cells e m f)) (hm:bs.length≤m) (h0:bs≠[]) (dn:bs.length≤9223372036854775807) (hf:∀j,j<bs.length→f j=UU bs j)
  (hh:h.del g=h') (k:aw E (.ops all rest::K) (σ.az o.dst (.c (.str ⟨bs.toArray⟩))) h'):aw E (.ops all (o::rest)::K) σ h:=by
 subst hh
 refine Kj hw (fun a w s=> ?_) k
 have r1:=QN s p
 have r2:=QN s x
 rw [hp] at r1
 rw [hx] at r2
 have v1:a.eval p=.pointer (some ⟨g,0,none⟩):=r1
 have v2:a.eval x=.int .i64 bs.length:=r2
 obtain⟨cs,hb,hn,hj⟩:=s.heap g _ (Qa.get_mem hg)
 have rU:w.shape? g=some (e,cs.size):=by simp [World.shape?,hb]
 have hr:=Lib.run_unsafeString_row (P:=E.P) (w:=w) pt it o.type e EB hc g cs.size rU bs h0 om dn (fun j u hu=>by
  obtain⟨bp,rfl⟩:=List.getElem?_eq_some_iff.1 hu
  obtain⟨u,hu,hr⟩:=hj j om
  rw [hf j bp] at hr
  rw [Zr,YX hb,Nz,hu,Me bp hr])
 refine⟨.string ⟨bs.toArray⟩,w.freeze ⟨g,0,none⟩ bs.length,.inl ?_,?_⟩
 ·simp [execOp,au,resolve,invoke,Go.builtin,v1,v2,hr]
 ·exact(s.drop (List.mem_map.2 ⟨_,Qa.get_mem hg,rfl⟩) (Fr.freeze w g _)).put hd (r:=.c (.str ⟨bs.toArray⟩)) rfl
theorem Fk {FP FP':Qa} {i mk:Nat} {cs:List (Nat×Nat)} {pt it e:TypeId} {p x:Operand} {g m:Nat} {f:Nat→CV} {bs:List UInt8} {h':Qa} (ho:l[i]?=some o) (au:o.op=.call {callee:=.builtin .unsafeString,args:= #[p,x],argTypes:= #[pt,it]}) (hw:Qu l σ o=some true) (hd:Qs E.N o.dst=true)
  (EB:E.P.underlying pt=some (.pointer e)) (hc:E.P.cellsOf e=1) (hp:ev σ p=.c (.aj g 0)) (hx:ev σ x=.c (.int .i64 bs.length)) (hg:h.get g=some (.cells e m f)) (hm:bs.length≤m) (h0:bs≠[]) (dn:bs.length≤9223372036854775807) (hf:∀j,j<bs.length→f j=UU bs j)
  (hh:h.del g=h') (fK:Kq FP' h') (k:CW E l K FP' cs (σ.az o.dst (.c (.str ⟨bs.toArray⟩))) h') (jI:mk=2∨mk=1∧FP'=FP:=by first|exact .inl rfl|exact .inr ⟨rfl,rfl⟩):CW E l K FP ((i,mk)::cs) σ h:=by
 refine .k6 ho jI (R:=fun r h2=>r=.c (.str ⟨bs.toArray⟩)∧h2=h') (fun σ' K hs=> ?_) ?_ ?_
 ·exact SC au ((Xg hs).trans hw) hd EB hc ((XD (by rw [au];simp [Op.operands,Call.operands]) hs).trans hp) ((XD (by rw [au];simp [Op.operands,Call.operands]) hs).trans hx) hg hm h0 dn hf hh (XP (Qb ⟨_,⟨rfl,rfl⟩,rfl⟩))
 ·rintro _ _ ⟨_,rfl⟩;exact fK
 ·rintro _ _ ⟨rfl,rfl⟩;exact k
end
end
section
theorem QvM (a b:List UInt8):KN (sB a) (sB b)=(a==b):=by unfold KN;rw [K0,K0]
theorem Qss (a b:Nat) (ha:a<4294967296):qO .u32 (a:Int) (b:Int)=((a/b:Nat):Int):=by
 rw [xE]
 show IntKind.u32.wrap ((a:Int).tdiv b)=_
 have h:=Nat.div_le_self a b
 have e:(a:Int).tdiv (b:Int)=((a/b:Nat):Int):=rfl
 rw [e,IntKind.wrap_u32]
 generalize a/b=q at*
 omega
section
variable {P : Program} {h : Qa} {ρ : Operand → AV}
theorem QB.bq {t el:TypeId} {x ix:Operand} {g n:Nat} {k:IntKind} {i:Int} (ht:P.underlying t=some (.array n el)) (hz:(P.info? el).map (·.size)=some 1) (hx:ρ x=.c (.aj g 0)) (ki:ρ ix=.c (.int k i)) (h0:0≤i) (hl:i<n):QB P h ρ (.indexAddr t x ix) (.c (.aj g i.toNat)):=fun S w e _ ho _=>by
 have h1:e x=.pointer (some ⟨g,0,none⟩):=by have:=ho x Ag;rw [hx] at this;exact this
 have h2:e ix=.int k i:=by have:=ho ix Ag;rw [ki] at this;exact this
 obtain⟨j,hj,rF⟩:=Option.map_eq_some_iff.1 hz
 refine⟨_,fun o au=> ?_,rfl⟩
 simp [execOp,au,h1,h2,Instr.indexAt,Instr.sureAddr,asIntOf,run_underlying ht,h0,hl,sizeOf,typeInfo,hj,rF,Zr]
end
end
end Go.AI
namespace Go.PN
open Go.AI
theorem JO (l:List UInt8):(sB l).size=l.length:=rfl
theorem Mf (l:List UInt8):(sB l).data.toList=l:=rfl
theorem Cw (a b:List UInt8):∀j,Xs (UU a) a.length (UU b) j=UU (a++b) j:=fun j=>by
 unfold Xs UU
 split
 ·rename_i h
  rw [Lg,Lg,List.getElem?_append_left h]
 ·rename_i h
  rw [Lg,Lg,List.getElem?_append_right om]
def oa (n j:Nat) (q:Nat):CV:=if 9≤q+j then .int .u8 ((48+n/10^(8-q)%10:Nat):Int) else .int .u8 0
theorem Qnc (n:Nat):∀q,q<9→oa n 9 q=UU (Jk n) q:=fun q hq=>by
 unfold oa UU Jk
 rw [iP om,Lg,List.getElem?_map,List.getElem?_range hq]
 show _=CV.int .u8 ((UInt8.ofNat (48+n/10^(8-q)%10)).toNat:Int)
 have h:48+n/10^(8-q)%10<2^8:=by have:=Nat.mod_lt (n/10^(8-q)) (show 0<10 by omega);omega
 rw [UInt8.toNat_ofNat',Nat.mod_eq_of_lt h]
theorem Tu (n j:Nat) (hj:j<9):∀q,q<9→Vl (oa n j) (8-j) [.int .u8 ((48+n/10^j%10:Nat):Int)] q=oa n (j+1) q:=fun q hq=>by
 show(if q=8-j then CV.int .u8 ((48+n/10^j%10:Nat):Int) else oa n j q)=_
 unfold oa
 by_cases e:q=8-j
 ·subst e
  rw [iP rfl,iP om,show 8-(8-j)=j from by omega]
 ·rw [iN e]
  by_cases h:9≤q+j
  ·rw [iP h,iP om]
  ·rw [iN h,iN om]
end Go.PN
namespace Go.Proofs.YtjegkdadeghpjaaGreatDoor
open Go.AI Go.PN Proofs.Tryz
attribute [local irreducible] aw Fa VA Vk Fh YO
section
theorem Ua:prog.underlying 167=some (.pointer 170):=underlying167
theorem yb:prog.underlying 358=some .unsafePointer:=underlying358
theorem Cx:prog.underlying 9=some .string:=underlying9
theorem Mg:prog.underlying 230=some (.pointer 5):=underlying230
abbrev Wy (gB:Nat) (a b:CV):Nat×XS:=(gB,.cells 170 2 (ao [a,b]))
theorem QB.gF {h:Qa} {ρ:Operand→AV} {t el size bytes:Nat} {x:Operand} (ht:QP prog t=some (el,size,bytes)) (hx:ρ x=.c (.raw (.slice none 0 0))):QB prog h ρ (.call {callee:=.builtin .len,args:= #[x],argTypes:= #[t]}) (.c (.int .i64 0)):=fun S w e _ ho _=>by
 have h2:e x=.slice none 0 0:=by have:=ho x (by simp [Op.operands,Call.operands]);rw [hx] at this;exact this
 obtain⟨hu,_⟩:=Q6 ht
 exact⟨.int .i64 0,fun o au=>by simp [execOp,au,resolve,invoke,Go.builtin,Builtin.len_,h2,run_underlying hu,goInt],rfl⟩
section
variable {E : Vj} {K : List It} {σ : Sl}
theorem Iz {x:Nat×XS} {og:Option Nat} {ty:TypeId} {n n':Nat} {f f':Nat→CV} (hn:n=n') (hf:∀j,j<n→f j=f' j) (k:aw E K σ (x::gh og ty n' f')):aw E K σ (x::gh og ty n f):=by
 subst hn
 cases og with
 |none=>exact k
 |some g=>exact Qj (List.Perm.swap _ _ _) (QY hf (Qj (List.Perm.swap _ _ _) k))
end
theorem Se (gB:Nat) (b:CV):Fh prog 276 [Wy gB (.raw (.pointer none)) b] [.c (.aj gB 0)] (fun x h=>x=.aF []∧h=[Wy gB (.aj gB 0) b]):=by
 obtain⟨j,hj,rF⟩:=Option.map_eq_some_iff.1 (show(prog.info? 170).map (·.size)=some 2 from by kernel_rfl)
 refine fH func276 fun C hC=>?_
 refine xG ?_
 refine Xh (QB.kH (b:=true) Ua eE eE (.inl ⟨rfl,rfl⟩)) rfl rfl ?_
 refine ZA ?_
 refine xP ?_
 refine xG ?_
 refine Xh (QB.jO Ua yb hj (by rw [rF];decide) eE eE om) rfl rfl ?_
 refine ZA ?_
 refine Xh (QB.jN func343 rfl rfl rfl rfl rfl eE) rfl rfl ?_
 refine ZA ?_
 refine Xh (QB.j7 yb Ua hj (n:=2) kR om eE eE om) rfl rfl ?_
 refine ZA ?_
 refine xW ?_
 refine xS ?_
 refine QY (f':=ao [.aj gB 0,b]) (fun j hj=>by match j,hj with|0,_=>rfl|1,_=>rfl) ?_
 refine xG ?_
 refine xV ?_
 exact⟨rfl,rfl⟩
theorem Sf (gB:Nat) (b:CV):Fh prog 276 [Wy gB (.aj gB 0) b] [.c (.aj gB 0)] (fun x h=>x=.aF []∧h=[Wy gB (.aj gB 0) b]):=by
 obtain⟨j,hj,rF⟩:=Option.map_eq_some_iff.1 (show(prog.info? 170).map (·.size)=some 2 from by kernel_rfl)
 refine fH func276 fun C hC=>?_
 refine xG ?_
 refine Xh (QB.kH (b:=false) Ua eE eE (.inr ⟨gB,rfl,rfl⟩)) rfl rfl ?_
 refine ZA ?_
 refine xN ?_
 refine xG ?_
 refine Xh (QB.nh Ua hj eE eE) rfl rfl ?_
 refine ZA ?_
 refine xN ?_
 refine xG ?_
 refine xV ?_
 exact⟨rfl,rfl⟩
theorem Qst (gB:Nat) (a:CV) (ha:a=.raw (.pointer none)∨a=.aj gB 0) (og:Option Nat) (B l:List UInt8) (ax:og=none→B.length=0) (hlen:B.length+l.length≤100000000000):
  Fh prog 169 (Wy gB a (JN og B.length)::gh og 5 B.length (UU B)) [.c (.aj gB 0),.c (.str (sB l))]
   (fun x h=>∃dA,(dA=none→(B++l).length=0)∧x=.aF [.c (.int .i64 l.length),.c .aN]∧h=Wy gB (.aj gB 0) (JN dA (B++l).length)::gh dA 5 (B++l).length (UU (B++l))):=by
 have ke:Fh prog 276 [Wy gB a (JN og B.length)] [.c (.aj gB 0)] (fun x h=>x=.aF []∧h=[Wy gB (.aj gB 0) (JN og B.length)]):=by
  rcases ha with rfl|rfl
  ·exact Se ..
  ·exact Sf ..
 refine fH func169 fun C hC=>?_
 refine xG ?_
 refine Qq (hc:=[Wy gB a (JN og B.length)]) (hr:=gh og 5 B.length (UU B)) ke rfl rfl rfl (.refl _) eL ?_
 rintro _ _ ⟨rfl,rfl⟩ _
 refine ZA ?_
 refine Fj (pre:=[Wy gB (.aj gB 0) (JN og B.length)]) (f:=UU B) (bs:=sB l) rfl rfl rfl eE Cx eE (by rfl) eE eE ax rfl (by rw [JO];unfold maxLen;omega) (by rw [JO];omega) fun dA h1 h2=> ?_
 rw [JO,Mf,List.singleton_append]
 refine Iz (n':=(B++l).length) (f':=UU (B++l)) (by simp) (fun j _=>Cw B l j) ?_
 rw [show B.length+l.length=(B++l).length from by simp]
 rw [JO,show B.length+l.length=(B++l).length from by simp] at h1
 refine ZA ?_
 have df:(JN dA (B++l).length).aX=true:=by cases dA<;>rfl
 refine Kn rfl rfl rfl rfl eE eE eE eE (fun _ e=>by cases e) (by simp only [AV.cells,List.all_cons,List.all_nil,df];rfl) (by rfl) om rfl ?_
 refine xS ?_
 refine QY (f':=ao [.aj gB 0,JN dA (B++l).length]) (fun j hj=>by match j,hj with|0,_=>rfl|1,_=>rfl) ?_
 refine xG ?_
 refine xU ?_
 exact⟨dA,h1,rfl,rfl⟩
theorem Qsu (gB:Nat) (a:CV) (og:Option Nat) (B:List UInt8) (h0:og=none→B=[]) (h1:B=[]→og=none) (hlen:B.length≤100000000000):
  Fh prog 107 (Wy gB a (JN og B.length)::gh og 5 B.length (UU B)) [.c (.aj gB 0)] (fun x h=>x=.c (.str (sB B))∧h=[]):=by
 cases og with
 |none=>
  have hB:=h0 rfl
  subst hB
  refine fH func107 fun C hC=>?_
  refine xG ?_
  refine Xl 11 Qg kR ?_
  refine xG ?_
  refine KR (QB.gK eE) rfl rfl ?_
  refine ZA ?_
  refine KR (QB.gF (by exact VD) eE) rfl rfl ?_
  refine ZA ?_
  refine KR (QB.gL eE eE) rfl rfl ?_
  refine ZA ?_
  refine Xa (Sl.le_refl _) (List.nil_sublist _) ?_
  refine xU ?_
  exact⟨rfl,rfl⟩
 |some g=>
  have hB:B≠[]:=fun e=>by have:=h1 e;cases this
  have DH:0<B.length:=List.length_pos_iff.2 hB
  refine(?_:Fh _ _ (Wy gB a (.aO g 1 0 B.length)::[(g,.cells 5 B.length (UU B))]) _ _)
  refine fH func107 fun C hC=>?_
  refine YY fun bf=> ?_
  have aK:gB≠g:=fun e=>by subst e;simp [Qa.keys] at bf
  have bc:(gB=g)=False:=eq_false aK
  refine yG bc ?_
  refine Yl [Wy gB a (.aO g 1 0 B.length)] [(0,0),(1,0),(2,0),(3,0),(4,0),(5,0),(6,0),(7,0),(8,0),(9,0),(10,2),(11,0)] Qg kR (Qm (Lf ..) Qf) ?_
  refine yG bc ?_
  refine Z1 rfl (fun _ _=>QB.iQ (zE bc) DH) rfl rfl ?_
  refine Xw bc ?_
  refine Fk (FP':=[]) (bs:=B) (h':=[Wy gB a (.aO g 1 0 B.length)]) rfl rfl rfl rfl Mg kR (zE bc) (zE bc) (zE bc) (Ac _) hB om (fun _ _=>rfl) (zE bc) Qf ?_
  refine Xw bc ?_
  refine Xa (Sl.le_refl _) (List.nil_sublist _) ?_
  refine yU bc ?_
  exact⟨rfl,rfl⟩
end
theorem S6 (l:List UInt8) (c:UInt8) (hl:l.length≤100000000000):Fa prog 285 [.c (.str (sB l)),.c (.int .u8 (c.toNat:Int))] (.c (.str (sB (l.dropWhile (·==c))))):=by
 refine fA func285 fun C hC=>?_
 refine xG ?_
 refine Qh (fun m:List UInt8=>[(0,.c (.str (sB m))),(1,.c (.int .u8 (c.toNat:Int)))]) (fun _=>[]) (fun m=>m.length≤l.length∧l.dropWhile (·==c)=m.dropWhile (·==c)) (fun m=>m.length) l eB zZ ⟨Ac _,rfl⟩ ?_
 rintro m ⟨hm,he⟩
 cases m with
 |nil=>
  repeat' first|refine zV o0 ?_|refine zH o0 ?_ ?_<;>intro hb|fail
  rw [he]
  refine xT hC ?_
  exact .one (.c (.str _))
 |cons a r=>
  repeat' first|refine zV o0 ?_|refine zH o0 ?_ ?_<;>intro hb|fail
  ·have tj:(a==c)=true:=by
    have:a.toNat=c.toNat:=hb
    exact beq_iff_eq.2 (UInt8.toNat_inj.1 this)
   have iW:Vn (a::r) 1 (r.length+1)=r:=by
    unfold Vn
    exact Ly (by simp)
   exact Qb ⟨r,by simp,(zB iW),zZ,by simp at hm;omega,by rw [he,List.dropWhile_cons,iP tj]⟩
  ·have tj:(a==c)=false:=by
    refine Bool.eq_false_iff.2 fun e=> ?_
    exact hb (by rw [eq_of_beq e];rfl)
   rw [he,List.dropWhile_cons,iN (by rw [tj];simp)]
   refine xT hC ?_
   exact .one (.c (.str _))
  ·exact absurd hb om
theorem S7 (l:List UInt8) (hl:l.length≤100000000000):Fa prog 178 [.c (.str (sB l)),.c (.str (sB [48]))] (.c (.str (sB (l.dropWhile (·==48))))):=by
 have DF:KN (sB [48]) ⟨#[]⟩=false:=by rw [show(⟨#[]⟩:ByteArray)=sB [] from rfl,QvM];rfl
 have f0:Fa prog 285 [.c (.str (sB l)),.c (.int .u8 48)] (.c (.str (sB (l.dropWhile (·==48))))):=S6 l 48 hl
 have uV:((1:Int)==1)=true:=rfl
 have ra:decide ((48:Int)<128)=true:=rfl
 have re:XE [48] 0=48:=rfl
 refine fA func178 fun C hC=>?_
 all_goals try(have Z:=(oj DF (oj uV (oj ra re)));(repeat' first|refine zV Z ?_|refine yQ Z f0 ?_|refine zH Z ?_ ?_<;>intro hb|fail);all_goals clear Z)
 ·rw [hb]
  refine yT hC (oj DF (oj uV (oj ra re))) ?_
  exact .one (.c (.str _))
 ·refine yT hC (oj DF (oj uV (oj ra re))) ?_
  exact .one (.c (.str _))
theorem Ni:prog.underlying 311=some (.array 9 5):=underlying311
theorem Qsv:prog.underlying 168=some (.slice 5):=underlying168
theorem Quw:prog.underlying 5=some (.int .u8):=underlying5
theorem Qnd {P:Program} {h:Qa} {ρ:Operand→AV} {s d el ty:TypeId} {x:Operand} {g m n:Nat} {f:Nat→CV} {l:List UInt8} (hs:P.underlying s=some (.slice el)) (he:P.underlying el=some (.int .u8)) (hd:P.underlying d=some .string) (hn:n=l.length) (hx:ρ x=.c (.aO g 1 0 n))
  (hg:h.get g=some (.cells ty m f)) (hm:n≤m) (hf:∀j,j<n→f j=UU l j):QB P h ρ (.convert s d x) (.c (.str ⟨l.toArray⟩)):=by
 subst hn
 exact QB.mC hs he hd hx hg hm hf
theorem QvN {a:Nat} (h:a<256):Xz .u8 (a:Int)=(a:Int):=by rw [QM];exact XN (by simp only [XM];omega)
theorem QvO (a:Nat):yY (a:Int) 10=((a%10:Nat):Int):=Cb a 10
theorem QvP (a:Nat) (ha:a<4294967296):qO .u32 (a:Int) 10=((a/10:Nat):Int):=Qss a 10 ha
theorem Qsw (n:Nat) (hn:n<4294967296):Fa prog 177 [.c (.int .u32 (n:Int))] (.c (.str (sB (Jk n)))):=by
 refine fA func177 fun C hC=>?_
 refine xG ?_
 refine xA fun g3 av=>?_
 refine QY (f':=oa n 0) (fun q hq=>by match q,hq with|0,_=>rfl|1,_=>rfl|2,_=>rfl|3,_=>rfl|4,_=>rfl|5,_=>rfl|6,_=>rfl|7,_=>rfl|8,_=>rfl) ?_
 refine yG av ?_
 refine Qh (fun j:Nat=>[(0,.c (.int .u32 ((n/10^j:Nat):Int))),(3,.c (.aj g3 0)),(4,.c (.int .i64 (8-(j:Int))))]) (fun j=>[(g3,.cells 311 9 (oa n j))]) (fun j=>j≤9) (fun j=>9-j) 0 (by refine yS av ?_;simp) zZ (Lz _) ?_
 rintro j hj
 refine yG av ?_
 refine yF av (fun h1=>?_) fun h1=>?_
 ·have cU:j<9:=dT h1
  have aD:n/10^j<4294967296:=Nat.lt_of_le_of_lt (Nat.div_le_self _ _) hn
  have bP:=Tu n j cU
  have EC:n/10^j/10=n/10^(j+1):=by rw [Nat.div_div_eq_div_mul,←Nat.pow_succ]
  generalize n/10^j=a at*
  refine yG av ?_
  rw [QvO]
  refine yG av ?_
  rw [show(48:Int)+((a%10:Nat):Int)=((48+a%10:Nat):Int) from by omega]
  refine yG av ?_
  rw [QvN (show 48+a%10<256 by omega)]
  refine Xh (QB.bq Ni kR (zE av) (zE av) om om) rfl rfl ?_
  rw [show(8-(j:Int)).toNat=8-j from by omega]
  refine Xw av ?_
  refine yW av ?_
  refine yS av ?_
  refine QY (f':=oa n (j+1)) bP ?_
  refine yG av ?_
  rw [QvP a aD,EC]
  refine yG av ?_
  rw [show(8:Int)-(j:Int)-1=8-((j+1:Nat):Int) from by omega]
  exact Qb ⟨j+1,by omega,(zB av),zZ,by omega⟩
 ·have cU:j=9:=dF h1
  subst cU
  refine yG av ?_
  refine Xh (QB.nk Ni kR kR (zE av) (zE av) (Ac _) qc) rfl rfl ?_
  refine Xw av ?_
  refine Xh (Qnd (l:=Jk n) Qsv Quw Cx (Oo n).symm (zE av) (zE av) om (fun q hq=>Qnc n q hq)) rfl rfl ?_
  refine mc hC av ?_
  exact .one (.c (.str _))
end Go.Proofs.YtjegkdadeghpjaaGreatDoor
namespace Go.PN
open Go.AI
def qM (G:List (List UInt8)) (j:Nat):CV:=.str (sB (G.getD j []))
@[go_sem] theorem Qwu (G:List (List UInt8)) (j:Nat):qM G j=.str (sB (G.getD j [])):=rfl
theorem QpS {zs:List (List UInt8)} {n:Nat} (hn:zs.length=n) (x:List UInt8):∀j,j<(n+1)*1→Xs (qM zs) (n*1) (ao [.str (sB x)]) j=qM (zs++[x]) j:=fun j hj=>by
 subst hn
 unfold Xs
 by_cases h:j<zs.length*1
 ·rw [iP h]
  show CV.str (sB (zs.getD j []))=CV.str (sB ((zs++[x]).getD j []))
  rw [Lg,Lg,List.getElem?_append_left om]
 ·have e:j=zs.length:=by omega
  subst e
  rw [iN h]
  show ao [.str (sB x)] (zs.length-zs.length*1)=CV.str (sB ((zs++[x]).getD zs.length []))
  rw [Ad,Nat.sub_self,Lg,List.getElem?_append_right (Ac _),Nat.sub_self]
  rfl
def bA (gB:Nat):Nat→CV
 |0=>.raw (.pointer none)
 |_+1=>.aj gB 0
theorem QvQ (gB i:Nat):bA gB i=.raw (.pointer none)∨bA gB i=.aj gB 0:=by cases i;exact .inl rfl;exact .inr rfl
theorem Qxt:(∀a b:BS,(a++b).length=a.length+b.length)∧(∀(x:UInt8) (a:BS),(x::a).length=a.length+1)∧([]:BS).length=0∧(∀a b c:BS,a++b++c=a++(b++c))∧(∀(x:UInt8) (a b:BS),x::a++b=x::(a++b))∧∀a:BS,[]++a=a:=
 ⟨fun _ _=>La,fun _ _=>rfl,rfl,fun _ _ _=>Lo _ _ _,fun _ _ _=>rfl,fun _=>rfl⟩
theorem Qxu {n:Nat}:Zs n 1=0↔n=1:=by
 unfold Zs
 constructor
 ·intro h
  repeat' split at h
  all_goals first|assumption|cases h
 ·intro h
  rw [h];rfl
theorem Ar {l:BS} (B:Nat):∀(n i:Nat) (out:List TK),out.length+(l.length-i)≤B→(Yj l n i out).2.length≤B
 |0,_,_,h=>by unfold Yj;dsimp only;omega
 |n+1,i,out,h=>by
  unfold Yj
  by_cases hi:i<l.length
  ·rw [iP hi]
   cases hs:ZI l i with
   |err c=>exact Lz _
   |skip e=>
    have:=U8 hi hs
    exact Ar B n e out om
   |tok k e=>
    have:=VE hi hs
    exact Ar B n e _ (by rw [La,List.length_singleton];omega)
  ·rw [iN hi];dsimp only;omega
theorem As {l:BS}:∀(n i:Nat) (out:List TK),(∀t∈out,t.text.length≤l.length)→∀t∈(Yj l n i out).2,t.text.length≤l.length
 |0,_,_,h=>h
 |n+1,i,out,h=>by
  unfold Yj
  by_cases hi:i<l.length
  ·rw [iP hi]
   cases hs:ZI l i with
   |err c=>exact fun _ h=>by cases h
   |skip e=>exact As n e out h
   |tok k e=>
    have hh:=VE hi hs
    refine As n e _ fun t ht=> ?_
    rcases List.mem_append.1 ht with e'|e'
    ·exact h t e'
    ·rw [Lv.1 e']
     show(Vn l i e).length≤_
     rw [Qo2 hh.2];omega
  ·rw [iN hi];exact h
theorem FI (l:BS):(XL l).2.length≤65536:=by
 unfold XL
 split
 ·exact Lz _
 ·exact Ar 65536 _ _ _ (by simp;omega)
theorem FJ (l:BS):∀t∈(XL l).2,t.text.length≤65536:=by
 unfold XL
 split
 ·exact fun _ h=>by cases h
 ·exact fun t ht=>Lt (As _ _ _ (fun _ h=>by cases h) t ht) om
inductive QvR (t:TK):Prop where
 |word (k:t.kind=0) (h0:0<t.text.length) (h1:t.text.length≤24) (h2:KO (XE t.text 0)=true) (h3:∀j,j<t.text.length→Yf (XE t.text j)=true)
 |num (k:t.kind=1) (h0:0<t.text.length) (hd:QE (XE t.text 0)=true) (h1:NU t.text)
 |Uc (k:t.kind=2) (h0:t.text.length=1) (h1:qG (XE t.text 0)=true)
def NW (l:BS):Prop:=l=[]∨Yf (XE l 0)=false∧XE l 0≠47
inductive Lx:BS→List TK→Prop where
 |nil:Lx [] []
 |blank (b:UInt8) (l:BS) (ts:List TK):nZ b.toNat=true→Lx l ts→Lx (b::l) ts
 |note (c l:BS) (ts:List TK):(∀x∈c,x.toNat≠10)→Lx l ts→Lx (35::(c++10::l)) ts
 |tok (t:TK) (l:BS) (ts:List TK):QvR t→NW l→Lx l ts→Lx (t.text++l) (t::ts)
 |Uc (b:UInt8) (l:BS) (ts:List TK):qG b.toNat=true→Lx l ts→Lx (b::l) (⟨2,[b]⟩::ts)
section
variable {α β : Type}
structure qA (r:RD):Prop where
 w:r.wf 1073741824
 v:r.valid=true
 q:0≤r.q
 l:(Y5 r).length≤100
def Qxv (x:X7):Prop:=QD x.name=true∧qA x.p∧qA x.fail∧qA x.rep∧0≤x.cost∧x.cost≤1073741824
def yJ (i:BS):Prop:=(XE i 0=64∧QD (i.drop 1)=true∧0<i.length)∨QD i=true
def NX (g:Xk):Prop:=QD g.name=true∧0≤g.kind∧g.kind≤8∧0≤g.k∧g.k≤16∧(g.kind≠2→g.k=0)∧qA g.aH∧(g.kind≠7→g.aH=aW)∧∀i∈g.ak,yJ i
def Qxw (x:YT):Prop:=QD x.name=true∧yJ x.top∧∀g∈x.an,NX g
def Qxx (x:YU):Prop:=QD x.name=true∧(x.kind=0∨x.kind=1)∧(∀n∈x.members,QD n=true)∧∀r∈x.ar,qA r
def Qxy (v:Zh):Prop:=QD v.event=true∧qA v.p
def Qxz (x:Ke):Prop:=QD x.name=true∧yJ x.top∧∀v∈x.values,Qxy v
structure MdB (m:Qz):Prop where
 nm:QD m.name=true
 tp:yJ m.top
 ev:∀x∈m.events,Qxv x
 hs:∀x∈m.af,QD x.name=true
 gt:∀x∈m.an,NX x
 pg:∀x∈m.aa,Qxw x
 gr:∀x∈m.ae,Qxx x
 ph:∀x∈m.ai,Qxz x
theorem sign_zero {r:RD} (h:qA r) (hs:YZ r.q=0):r=aW:=by
 have hq:r.q=0:=by
  unfold YZ at hs
  split at hs
  ·assumption
  ·split at hs<;>cases hs
 have:=Mc h.w h.v
 rw [hq] at this
 rw [←this];decide+kernel
end
theorem Bt:∀(k n:Nat),n<10^(k+1)→(Ve n).length≤k+1
 |0,n,h=>by rw [KW (by simpa using h)];simp
 |k+1,n,h=>by
  by_cases q9:n<10
  ·rw [KW q9];simp
  ·have:=Bt k (n/10) (by rw [Nat.pow_succ] at h;omega)
   rw [ud om,La]
   simp;omega
theorem QpT {c:Int} (h0:0<c):Y5 (rd (c:Rat))=Ve c.natAbs:=by
 have e1:((c:Int):Rat).num=c:=Rat.num_intCast c
 have e2:((c:Int):Rat).den=1:=Rat.den_intCast c
 have hr:rd (c:Rat)=⟨false,Qc c.natAbs,Qc 1⟩:=by
  unfold rd
  rw [e1,e2,iN om,De om]
 have aK:(Qc c.natAbs).length≠0:=by
  intro e
  have:=Qd c.natAbs
  rw [Lh.1 e] at this
  have:0=c.natAbs:=this
  omega
 have hs:(rd (c:Rat)).some=true:=by
  unfold RD.some
  rw [QoB,hr]
  simpa using aK
 have a1:(rd (c:Rat)).ps=false:=by unfold RD.ps;rw [iP hs,hr]
 have a2:(rd (c:Rat)).pn=c.natAbs:=by unfold RD.pn;rw [iP hs,hr];exact Qd _
 have a3:(rd (c:Rat)).pd=1:=by unfold RD.pd;rw [iP hs,hr];exact Qd _
 unfold Y5
 rw [a1,a2,a3,iN (by simp),iP rfl,Lp,wM]
theorem QpU (c:Int):YZ (rd (c:Rat)).q=0↔c=0:=by
 rw [Wv]
 unfold YZ
 constructor
 ·intro h
  split at h
  ·rename_i e;exact_mod_cast e
  ·split at h<;>cases h
 ·intro h
  subst h
  rw [iP (by rfl)]
def kF (l:List BS):BS:=l.flatMap fun y=>32::y
theorem Qsx {α:Type} (l:List α) (d:α) {j:Nat} (h:j<l.length):l.take (j+1)=l.take j++[l.getD j d]:=by
 rw [List.take_add_one,Lg,Li h];rfl
theorem Qne {α:Type} (f:α→BS) (l:List α) (d:α) {j:Nat} (h:j<l.length):(l.take (j+1)).flatMap f=(l.take j).flatMap f++f (l.getD j d):=by
 rw [Qsx l d h,List.flatMap_append];simp
theorem QpV (l:List BS):l.length≤(kF l).length:=by
 induction l with
 |nil=>exact Ac _
 |cons x l ih=>unfold kF at*;rw [List.flatMap_cons,La,Lc,Lc];omega
theorem QxA {α:Type} (B:BS) (f:α→BS) (l:List α) (d:α):∃A:Nat→BS,A 0=B∧(∀i,i<l.length→A (i+1)=A i++f (l.getD i d))∧A l.length=B++l.flatMap f∧∀i,(A i).length≤(B++l.flatMap f).length:=by
 refine⟨fun i=>B++(l.take i).flatMap f,by simp,fun i hi=> ?_,by simp,fun i=> ?_⟩
 ·show B++_=(B++_)++_
  rw [Qne f l d hi,Lo]
 ·show(B++_).length≤_
  conv=>rhs;rw [←List.take_append_drop i l,List.flatMap_append]
  simp only [La]
  omega
def Wt (g:Xk):BS:=Qy++32::(g.name++32::(XB g.kind++(if g.kind=2 then 32::Zz g.k else if g.kind=7 then 32::Y5 g.aH else [])))
theorem IA (g:Xk):ZZ g=Wt g++(kF g.ak++[59]):=by
 unfold ZZ Yw Zo Wt OL
 by_cases h2:g.kind=2
 ·simp [h2,kF]
 ·by_cases h7:g.kind=7
  ·simp [h7,kF]
  ·simp [h2,h7,kF]
theorem Qnf (B:List UInt8) (c:UInt8):∀j,j<(B.length+1)*1→Xs (UU B) (B.length*1) (ao [.int .u8 (c.toNat:Int)]) j=UU (B++[c]) j:=fun j _=>by
 rw [Ad,←Cw]
 unfold Xs
 split
 ·rfl
 ·rename_i h1
  by_cases e:j=B.length
  ·subst e;rw [Nat.sub_self];rfl
  ·omega
def VK (l:List BS) (j:Nat):Nat:=((l.take j).map List.length).sum
theorem IB (l:List BS) (j:Nat) (hj:j<l.length):l.take (j+1)=l.take j++[l.getD j []]:=by
 rw [List.take_add_one,Li hj,Lg,Li hj]
 rfl
theorem AO (l:List BS) (j:Nat) (hj:j<l.length):VK l (j+1)=VK l j+(l.getD j []).length:=by
 unfold VK
 rw [IB l j hj,List.map_append,List.sum_append]
 rfl
theorem Mh (l:List BS) (k:Nat):∀j,j+k=l.length→VK l j≤VK l l.length:=by
 induction k with
 |zero=>intro j hj;rw [←hj];exact Ac _
 |succ k ih=>
  intro j hj
  have h1:=ih (j+1) om
  have h2:=AO l j om
  omega
def Jy (x:BS) (l:List BS) (j:Nat):BS:=x++(l.take j).flatMap fun y=>32::y
theorem GS (x:BS) (l:List BS) (j:Nat) (hj:j<l.length):Jy x l (j+1)=Jy x l j++[32]++l.getD j []:=by
 unfold Jy
 rw [IB l j hj,List.flatMap_append,Lo,Lo,←Lo]
 simp
theorem wN (x:BS) (l:List BS) (j:Nat) (hj:j≤l.length):(Jy x l j).length=x.length+j+VK l j:=by
 induction j with
 |zero=>simp [Jy,VK]
 |succ j ih=>rw [GS x l j om,AO l j om,La,La,ih om];simp;omega
section
section
variable {α : Type} [DecidableEq α]
def Y8 (a:α):List (α×Int)→Int
 |[]=>0
 |p::st=>if a=p.1 then p.2 else Y8 a st
def UN (a:α) (v:Int):List (α×Int)→List (α×Int)
 |[]=>[]
 |p::st=>if a=p.1 then(p.1,v)::st else p::UN a v st
def iD (f:List (α×Int)→α→Bool×List (α×Int)):List α→List (α×Int)→Bool×List (α×Int)
 |[],st=>(false,st)
 |x::l,st=>if(f st x).1=true then f st x else iD f l (f st x).2
def UO (leaf:α→Bool) (succ:α→List α):Nat→List (α×Int)→α→Bool×List (α×Int)
 |0,st,_=>(false,st)
 |n+1,st,t=>if leaf t=true then(false,st) else if Y8 t st=1 then(true,st) else if Y8 t st=2 then(false,st) else
  let r:=iD (UO leaf succ n) (succ t) (st++[(t,1)])
  if r.1=true then r else(false,UN t 2 r.2)
theorem AP (a b:α) (v:Int):∀st:List (α×Int),Y8 b (UN a v st)=if b=a∧a∈st.map (·.1) then v else Y8 b st
 |[]=>by simp [UN,Y8]
 |p::st=>by
  have ih:=AP a b v st
  unfold UN
  by_cases h:a=p.1
  ·rw [iP h]
   show(if b=p.1 then v else Y8 b st)=(if b=a∧a∈p.1::st.map (·.1) then v else(if b=p.1 then p.2 else Y8 b st))
   by_cases hb:b=p.1
   ·rw [iP hb,iP ⟨hb.trans h.symm,by rw [h];exact Lf⟩]
   ·rw [iN hb,iN (fun z=>hb (z.1.trans h)),iN hb]
  ·rw [iN h]
   show(if b=p.1 then p.2 else Y8 b (UN a v st))=(if b=a∧a∈p.1::st.map (·.1) then v else(if b=p.1 then p.2 else Y8 b st))
   by_cases hb:b=p.1
   ·rw [iP hb,iN (fun z=>h (z.1.symm.trans hb)),iP hb]
   ·rw [iN hb,iN hb,ih]
    have:(a∈p.1::st.map (·.1))↔a∈st.map (·.1):=by
     rw [Lb];exact⟨fun z=>z.elim (fun e=>absurd e h) id,.inr⟩
    simp only [this]
theorem AQ (a b:α) (v:Int):∀st:List (α×Int),a∉st.map (·.1)→Y8 b (st++[(a,v)])=if b=a then v else Y8 b st
 |[],_=>by simp [Y8]
 |p::st,h=>by
  have h1:a≠p.1:=fun e=>h (by rw [e];exact Lf)
  have ih:=AQ a b v st fun z=>h (Lm _ z)
  show(if b=p.1 then p.2 else Y8 b (st++[(a,v)]))=(if b=a then v else(if b=p.1 then p.2 else Y8 b st))
  by_cases hb:b=p.1
  ·rw [iP hb,iP hb,iN (fun e=>h1 (e.symm.trans hb))]
  ·rw [iN hb,iN hb,ih]
def QxB (nodes:List α) (succ:α→List α):Prop:=∃S:List α,S≠[]∧∀x∈S,x∈nodes∧∃y∈S,y∈succ x
def yK (succ:α→List α):List α→Prop
 |[]=>True
 |[_]=>True
 |a::b::l=>a∈succ b∧yK succ (b::l)
omit [DecidableEq α] in
theorem IC {succ:α→List α} {t:α} {l2:List α}:∀(l1:List α) (z:α),yK succ (l1++t::l2)→(∀h,(l1++t::l2).head?=some h→z∈succ h)→∀x∈l1++[t],∃y∈z::(l1++[t]),y∈succ x
 |[],z,_,hz,x,hx=>by
  have:x=t:=by simpa using hx
  subst this
  exact⟨z,Lf,hz x rfl⟩
 |a::l1,z,hp,hz,x,hx=>by
  rcases Lb.1 hx with h|h
  ·subst h
   exact⟨z,Lf,hz x rfl⟩
  ·have jJ:yK succ (l1++t::l2)∧∀h,(l1++t::l2).head?=some h→a∈succ h:=by
    cases l1 with
    |nil=>
     cases l2 with
     |nil=>exact⟨trivial,fun h e=>by simp at e;subst e;exact hp.1⟩
     |cons c l2=>exact⟨hp.2,fun h e=>by simp at e;subst e;exact hp.1⟩
    |cons c l1=>exact⟨hp.2,fun h e=>by simp at e;subst e;exact hp.1⟩
   obtain⟨y,hy,p9⟩:=IC l1 a jJ.1 jJ.2 x h
   exact⟨y,Lm _ hy,p9⟩
structure du (leaf:α→Bool) (succ:α→List α) (nodes:List α) (st:List (α×Int)) (stk fin:List α):Prop where
 nd:(st.map (·.1)).Nodup
 sub:∀a∈st.map (·.1),a∈nodes
 key:∀a,a∈st.map (·.1)↔a∈stk∨a∈fin
 j8:∀a,Y8 a st=1↔a∈stk
 black:∀a,Y8 a st=2↔a∈fin
 path:yK succ stk
 qh:∀a∈stk,leaf a=false
 fd:fin.Nodup
 ord:∀l1 b l2,fin=l1++b::l2→∀x∈succ b,leaf x=true∨x∈l1
def uF (leaf:α→Bool) (succ:α→List α) (nodes:List α) (st:List (α×Int)) (stk fin:List α) (r:Bool×List (α×Int)) (P:List α→Prop):Prop:=
 (r.1=true→QxB nodes succ)∧(r.1=false→∃fZ,du leaf succ nodes r.2 stk fZ∧(∀a∈fin,a∈fZ)∧st.length≤r.2.length∧P fZ)
theorem C3 {leaf:α→Bool} {succ:α→List α} {nodes stk:List α} {f:List (α×Int)→α→Bool×List (α×Int)} {k:Nat}
  (hf:∀st fin x,du leaf succ nodes st stk fin→k≤st.length→(leaf x=true∨x∈nodes)→(∀h,stk.head?=some h→x∈succ h)→uF leaf succ nodes st stk fin (f st x) (fun fZ=>leaf x=true∨x∈fZ)):
  ∀(l:List α) (st:List (α×Int)) (fin:List α),du leaf succ nodes st stk fin→k≤st.length→(∀x∈l,leaf x=true∨x∈nodes)→(∀x∈l,∀h,stk.head?=some h→x∈succ h)→uF leaf succ nodes st stk fin (iD f l st) (fun fZ=>∀x∈l,leaf x=true∨x∈fZ)
 |[],st,fin,hi,_,_,_=>⟨fun h=>(by cases h),fun _=>⟨fin,hi,fun _ h=>h,Ac _,fun x hx=>(by cases hx)⟩⟩
 |x::l,st,fin,hi,hk,hl,hs=>by
  obtain⟨h1,h2⟩:=hf st fin x hi hk (hl x Lf) (hs x Lf)
  unfold iD
  by_cases hr:(f st x).1=true
  ·rw [iP hr]
   exact⟨h1,fun h=>by rw [hr] at h;cases h⟩
  ·rw [iN hr]
   obtain⟨jy,i1,m1,l1,p1⟩:=h2 (by simpa using hr)
   obtain⟨g1,g2⟩:=C3 hf l (f st x).2 jy i1 (Lt hk l1) (fun y hy=>hl y (Lm _ hy)) (fun y hy=>hs y (Lm _ hy))
   refine⟨g1,fun h=> ?_⟩
   obtain⟨mG,i2,m2,l2,p2⟩:=g2 h
   refine⟨mG,i2,fun a ha=>m2 a (m1 a ha),Lt l1 l2,fun y hy=> ?_⟩
   rcases Lb.1 hy with e|e
   ·subst e
    exact p1.elim .inl fun z=>.inr (m2 _ z)
   ·exact p2 y e
theorem UP:∀{l n:List α},l.Nodup→(∀a∈l,a∈n)→l.length≤n.length
 |[],_,_,_=>Lz _
 |a::l,n,hd,hs=>by
  have⟨h1,h2⟩:=List.nodup_cons.1 hd
  have ha:=hs a Lf
  have:=UP (l:=l) (n:=n.erase a) h2 fun b hb=>(List.mem_erase_of_ne (fun e:b=a=>h1 (by rw [←e];exact hb))).2 (hs b (Lm _ hb))
  rw [List.length_erase_of_mem ha] at this
  have hp:=List.length_pos_of_mem ha
  rw [Lc]
  omega
theorem Jl (a:α) (v:Int):∀st:List (α×Int),(UN a v st).map (·.1)=st.map (·.1)
 |[]=>rfl
 |p::st=>by
  unfold UN
  split
  ·rfl
  ·rw [Ld,Ld,Jl a v st]
omit [DecidableEq α] in
theorem Tv {fin l1 l2:List α} {t b:α} (h:fin++[t]=l1++b::l2):(b=t∧l1=fin)∨∃l3,fin=l1++b::l3:=by
 rcases List.eq_nil_or_concat l2 with e|⟨l3,c,e⟩
 ·subst e
  have:=List.append_inj' h rfl
  exact .inl ⟨(List.cons.inj this.2).1.symm,this.1.symm⟩
 ·subst e
  have h':fin++[t]=(l1++b::l3)++[c]:=by rw [h];simp
  exact .inr ⟨l3,(List.append_inj' h' rfl).1⟩
theorem du.push {leaf:α→Bool} {succ:α→List α} {nodes:List α} {st:List (α×Int)} {stk fin:List α} {t:α} (hi:du leaf succ nodes st stk fin) (hl:¬leaf t=true) (p6:t∈nodes) (jc:t∉st.map (·.1)) (vK:t∉fin) (hh:∀h,stk.head?=some h→t∈succ h):du leaf succ nodes (st++[(t,1)]) (t::stk) fin:=by
 refine⟨?_,?_,?_,?_,?_,?_,?_,hi.fd,hi.ord⟩
 ·rw [List.map_append]
  exact List.nodup_append.2 ⟨hi.nd,by simp,fun a ha b hb e=>by simp at hb;exact jc (by rw [←hb,←e];exact ha)⟩
 ·intro a ha
  rw [List.map_append] at ha
  rcases List.mem_append.1 ha with h|h
  ·exact hi.sub a h
  ·rw [Lv.1 h];exact p6
 ·intro a
  rw [List.map_append,List.mem_append,hi.key a,Lb]
  simp only [Ld,List.map_nil,Lv]
  exact⟨fun z=>z.elim (fun w=>w.elim (fun u=>.inl (.inr u)) .inr) fun w=>.inl (.inl w),fun z=>z.elim (fun w=>w.elim .inr fun u=>.inl (.inl u)) fun w=>.inl (.inr w)⟩
 ·intro a
  rw [AQ t a 1 st jc,Lb]
  by_cases e:a=t
  ·rw [iP e];exact⟨fun _=>.inl e,fun _=>rfl⟩
  ·rw [iN e,hi.j8 a];exact⟨.inr,fun z=>z.resolve_left e⟩
 ·intro a
  rw [AQ t a 1 st jc]
  by_cases e:a=t
  ·rw [iP e];exact⟨fun z=>absurd z Af,fun z=>absurd (e▸z) vK⟩
  ·rw [iN e,hi.black a]
 ·cases stk with
  |nil=>trivial
  |cons b l=>exact⟨hh b rfl,hi.path⟩
 ·intro a ha
  rcases Lb.1 ha with h|h
  ·rw [h];simpa using hl
  ·exact hi.qh a h
theorem tU {leaf:α→Bool} {succ:α→List α} {nodes:List α} (bZ:∀t∈nodes,leaf t=false) (bS:∀t∈nodes,∀x∈succ t,leaf x=true∨x∈nodes):∀(n:Nat) (st:List (α×Int)) (stk fin:List α) (t:α),du leaf succ nodes st stk fin→nodes.length<n+st.length→(leaf t=true∨t∈nodes)→(∀h,stk.head?=some h→t∈succ h)→uF leaf succ nodes st stk fin (UO leaf succ n st t) (fun fZ=>leaf t=true∨t∈fZ)
 |0,st,stk,fin,t,hi,hn,_,_=>by
  have:=UP hi.nd hi.sub
  rw [Lw] at this
  omega
 |n+1,st,stk,fin,t,hi,hn,ht,hh=>by
  unfold UO
  by_cases hl:leaf t=true
  ·rw [iP hl]
   exact⟨fun h=>(by cases h),fun _=>⟨fin,hi,fun _ h=>h,Ac _,.inl hl⟩⟩
  rw [iN hl]
  have p6:t∈nodes:=ht.resolve_left hl
  by_cases h1:Y8 t st=1
  ·rw [iP h1]
   refine⟨fun _=> ?_,fun h=>(by cases h)⟩
   obtain⟨l1,l2,hs⟩:=List.append_of_mem ((hi.j8 t).1 h1)
   have hp:=hi.path
   rw [hs] at hp hh
   have hc:=IC l1 t hp hh
   refine⟨l1++[t],by simp,fun x hx=>⟨hi.sub x ((hi.key x).2 (.inl ?_)),?_⟩⟩
   ·rw [hs]
    rcases List.mem_append.1 hx with h|h
    ·exact List.mem_append_left _ h
    ·rw [Lv.1 h];simp
   ·obtain⟨y,hy,p9⟩:=hc x hx
    refine⟨y,?_,p9⟩
    rcases Lb.1 hy with h|h
    ·rw [h];simp
    ·exact h
  rw [iN h1]
  by_cases h2:Y8 t st=2
  ·rw [iP h2]
   exact⟨fun h=>(by cases h),fun _=>⟨fin,hi,fun _ h=>h,Ac _,.inr ((hi.black t).1 h2)⟩⟩
  rw [iN h2]
  have jc:t∉st.map (·.1):=fun h=>((hi.key t).1 h).elim (fun z=>h1 ((hi.j8 t).2 z)) fun z=>h2 ((hi.black t).2 z)
  have htS:t∉stk:=fun z=>h1 ((hi.j8 t).2 z)
  have vK:t∉fin:=fun z=>h2 ((hi.black t).2 z)
  have jV:=hi.push hl p6 jc vK hh
  obtain⟨g1,g2⟩:=C3 (f:=UO leaf succ n) (k:=st.length+1) (stk:=t::stk) (nodes:=nodes) (fun iR fZ x i' dC hx eM=>tU bZ bS n iR (t::stk) fZ x i' om hx eM) (succ t) (st++[(t,1)]) fin jV (by rw [La];exact Ac _) (bS t p6) (fun x hx h e=>by simp at e;subst e;exact hx)
  dsimp only
  by_cases hr:(iD (UO leaf succ n) (succ t) (st++[(t,1)])).1=true
  ·rw [iP hr]
   exact⟨g1,fun h=>by rw [hr] at h;cases h⟩
  rw [iN hr]
  obtain⟨jy,i1,m1,l1,p1⟩:=g2 (by simpa using hr)
  generalize iD (UO leaf succ n) (succ t) (st++[(t,1)])=r at*
  refine⟨fun h=>(by cases h),fun _=>⟨jy++[t],?_,fun a ha=>List.mem_append_left _ (m1 a ha),?_,.inr (by simp)⟩⟩
  ·have oP:t∈r.2.map (·.1):=(i1.key t).2 (.inl Lf)
   have EL:Y8 t r.2=1:=(i1.j8 t).2 Lf
   have EM:t∉jy:=fun z=>by have:=(i1.black t).2 z;rw [EL] at this;cases this
   refine⟨?_,?_,?_,?_,?_,?_,fun a ha=>i1.qh a (Lm _ ha),List.nodup_append.2 ⟨i1.fd,by simp,fun a ha b hb e=>by simp at hb;exact EM (by rw [←hb,←e];exact ha)⟩,?_⟩
   ·rw [Jl];exact i1.nd
   ·rw [Jl];exact i1.sub
   ·intro a
    rw [Jl,i1.key a,Lb,List.mem_append,Lv]
    exact⟨fun z=>z.elim (fun w=>w.elim (fun u=>.inr (.inr u)) .inl) fun w=>.inr (.inl w),fun z=>z.elim (fun w=>.inl (.inr w)) fun w=>w.elim .inr fun u=>.inl (.inl u)⟩
   ·intro a
    rw [AP]
    by_cases e:a=t
    ·rw [iP ⟨e,oP⟩];exact⟨fun z=>absurd z Af,fun z=>absurd (e▸z) htS⟩
    ·rw [iN (fun z=>e z.1),i1.j8 a,Lb];exact⟨fun z=>z.resolve_left e,.inr⟩
   ·intro a
    rw [AP,List.mem_append,Lv]
    by_cases e:a=t
    ·rw [iP ⟨e,oP⟩];exact⟨fun _=>.inr e,fun _=>rfl⟩
    ·rw [iN (fun z=>e z.1),i1.black a];exact⟨.inl,fun z=>z.resolve_right e⟩
   ·have hp:=i1.path
    cases stk with
    |nil=>trivial
    |cons b l=>exact hp.2
   ·intro a1 b a2 hs x hx
    rcases Tv hs with ⟨e1,e2⟩|⟨a3,e⟩
    ·subst e1 e2
     exact p1 x hx
    ·exact i1.ord a1 b a3 e x hx
  ·have:(UN t 2 r.2).length=r.2.length:=by rw [←Lw (·.1),Jl,Lw]
   rw [La] at l1
   dsimp only
   omega
end
end
def Wz (uses:List (List Nat)) (off:List Bool) (i:Nat):List Bool:=off.set i (off.getD i false||(uses.getD i []).all fun u=>off.getD u false)
def s8 (uses:List (List Nat)) (off:List Bool) (n:Nat):List Bool:=(List.range n).foldl (Wz uses) off
def mg (uses:List (List Nat)) (n:Nat):Nat→List Bool→List Bool
 |0,off=>off
 |r+1,off=>mg uses n r (s8 uses off n)
theorem ID (uses:List (List Nat)) (off:List Bool) (i:Nat):(Wz uses off i).length=off.length:=by unfold Wz;exact List.length_set ..
theorem BV (uses:List (List Nat)) (off:List Bool) (i u:Nat):(Wz uses off i).getD u false=if i=u∧i<off.length then(off.getD i false||(uses.getD i []).all fun u=>off.getD u false) else off.getD u false:=by
 unfold Wz
 rw [Lg,List.getElem?_set]
 by_cases h:i=u
 ·subst h
  by_cases hl:i<off.length
  ·rw [iP rfl,iP hl,iP ⟨rfl,hl⟩];rfl
  ·rw [iP rfl,iN hl,iN (fun z=>hl z.2),Lg,List.getElem?_eq_none om]
 ·rw [iN h,iN (fun z=>h z.1),Lg]
theorem GU {uses:List (List Nat)} {off:List Bool} {i u:Nat} (h:off.getD u false=true):(Wz uses off i).getD u false=true:=by
 rw [BV]
 split
 ·rename_i e
  rw [e.1,h];rfl
 ·exact h
theorem wx (uses:List (List Nat)):∀(l:List Nat) (off:List Bool),(l.foldl (Wz uses) off).length=off.length
 |[],_=>rfl
 |i::l,off=>by rw [List.foldl_cons,wx uses l,ID]
theorem GV {uses:List (List Nat)} {u:Nat}:∀(l:List Nat) (off:List Bool),off.getD u false=true→(l.foldl (Wz uses) off).getD u false=true
 |[],_,h=>h
 |i::l,off,h=>by rw [List.foldl_cons];exact GV l _ (GU h)
theorem GW {uses:List (List Nat)} {i:Nat}:∀(l:List Nat) (off:List Bool),i∈l→i<off.length→(∀u∈uses.getD i [],off.getD u false=true)→(l.foldl (Wz uses) off).getD i false=true
 |[],_,h,_,_=>by cases h
 |j::l,off,h,hl,hu=>by
  rw [List.foldl_cons]
  by_cases e:i=j
  ·subst e
   refine GV l _ ?_
   rw [BV,iP ⟨rfl,hl⟩,List.all_eq_true.2 fun u mn=>by simpa using hu u mn,Bool.or_true]
  ·exact GW l _ ((Lb.1 h).resolve_left e) (by rw [ID];exact hl) fun u mn=>GU (hu u mn)
theorem IE {uses:List (List Nat)} {bad:Nat→Prop} (hb:∀i,bad i→∃u∈uses.getD i [],bad u):∀(l:List Nat) (off:List Bool),(∀i,bad i→off.getD i false=false)→∀i,bad i→(l.foldl (Wz uses) off).getD i false=false
 |[],_,h=>h
 |j::l,off,h=>by
  rw [List.foldl_cons]
  refine IE hb l _ fun i hi=> ?_
  rw [BV]
  split
  ·rename_i e
   obtain⟨e,_⟩:=e
   subst e
   obtain⟨u,hu,hbu⟩:=hb j hi
   rw [h j hi,Bool.false_or]
   refine Bool.eq_false_iff.2 fun z=> ?_
   have:=List.all_eq_true.1 z u hu
   rw [h u hbu] at this
   cases this
  ·exact h i hi
theorem IF {uses:List (List Nat)} {n:Nat} {bad:Nat→Prop} (hb:∀i,bad i→∃u∈uses.getD i [],bad u):∀(r:Nat) (off:List Bool),(∀i,bad i→off.getD i false=false)→∀i,bad i→(mg uses n r off).getD i false=false
 |0,_,h=>h
 |r+1,off,h=>IF hb r _ (IE hb _ off h)
theorem IG (uses:List (List Nat)) (n:Nat):∀(r:Nat) (off:List Bool),(mg uses n r off).length=off.length
 |0,_=>rfl
 |r+1,off=>by unfold mg;rw [IG uses n r];exact wx uses _ off
theorem GX {uses:List (List Nat)} {n:Nat} {pl:Nat→Nat} (hp:∀i,i<n→∀u∈uses.getD i [],u<n∧pl u<pl i):∀(r k:Nat) (off:List Bool),off.length=n→(∀i,i<n→pl i<k→off.getD i false=true)→∀i,i<n→pl i<k+r→(mg uses n r off).getD i false=true
 |0,_,_,_,h=>h
 |r+1,k,off,hl,h=>fun i hi hk=>by
  refine GX hp r (k+1) (s8 uses off n) (by unfold s8;rw [wx];exact hl) (fun j hj pS=> ?_) i hi om
  exact GW _ off (List.mem_range.2 hj) om fun u hu=>h u (hp j hj u hu).1 (by have:=(hp j hj u hu).2;omega)
section
section
variable {α : Type} [DecidableEq α]
theorem IH {leaf:α→Bool} {succ:α→List α} {nodes:List α}:du leaf succ nodes [] [] []:=
 ⟨List.nodup_nil,fun _ h=>(by cases h),fun a=>(by simp),fun a=>(by simp [Y8]),fun a=>(by simp [Y8]),trivial,fun _ h=>(by cases h),List.nodup_nil,fun l1 b l2 h=>(by simp at h)⟩
theorem Qux {l:List α} {a:α}:∀{l1 l2:List α},l=l1++a::l2→a∉l1→∀x∈l1,l.idxOf x<l.idxOf a:=by
 intro l1 l2 h hn x hx
 subst h
 rw [List.idxOf_append,List.idxOf_append,iP hx,iN hn]
 have:=List.idxOf_lt_length_iff.2 hx
 omega
theorem Quy {leaf:α→Bool} {succ:α→List α} {nodes:List α} {uses:List (List Nat)} (bf:nodes.Nodup) (bZ:∀t∈nodes,leaf t=false) (bS:∀t∈nodes,∀x∈succ t,leaf x=true∨x∈nodes)
  (hu:uses=nodes.map fun x=>((succ x).filter fun y=> !leaf y).map fun y=>nodes.idxOf y):
  (iD (UO leaf succ (nodes.length+1)) nodes []).1= !((mg uses nodes.length nodes.length (List.replicate nodes.length false)).all id):=by
 have hlen:uses.length=nodes.length:=by rw [hu,Lw]
 have de:∀x∈nodes,uses.getD (nodes.idxOf x) []=((succ x).filter fun y=> !leaf y).map fun y=>nodes.idxOf y:=fun x hx=>by
  have hl:=List.idxOf_lt_length_iff.2 hx
  rw [Lg,hu,List.getElem?_map,Li hl,List.getElem_idxOf hl];rfl
 have fX:∀i,nodes.length≤i→uses.getD i []=[]:=fun i hi=>by
  rw [Lg,List.getElem?_eq_none om];rfl
 have kq:(mg uses nodes.length nodes.length (List.replicate nodes.length false)).length=nodes.length:=by rw [IG,List.length_replicate]
 obtain⟨h1,h2⟩:=C3 (f:=UO leaf succ (nodes.length+1)) (k:=0) (stk:=[]) (nodes:=nodes) (leaf:=leaf) (succ:=succ) (fun st fin x hi _ hx hs=>tU bZ bS _ st [] fin x hi om hx hs) nodes [] [] IH (Lz _) (fun x hx=>.inr hx) (fun x _ h e=>by simp at e)
 generalize iD (UO leaf succ (nodes.length+1)) nodes []=r at*
 generalize hR:mg uses nodes.length nodes.length (List.replicate nodes.length false)=R at*
 cases hr:r.1 with
 |true=>
  obtain⟨S,hS,hc⟩:=h1 hr
  have DX:=IF (uses:=uses) (n:=nodes.length) (bad:=fun i=>∃x∈S,nodes.idxOf x=i) (by
   rintro i ⟨x,hx,rfl⟩
   obtain⟨p8,y,hy,p9⟩:=hc x hx
   refine⟨nodes.idxOf y,?_,y,hy,rfl⟩
   rw [de x p8]
   exact List.mem_map.2 ⟨y,List.mem_filter.2 ⟨p9,by rw [bZ y (hc y hy).1];rfl⟩,rfl⟩) nodes.length (List.replicate nodes.length false) (by
   rintro i ⟨x,hx,rfl⟩
   have hl:=List.idxOf_lt_length_iff.2 (hc x hx).1
   rw [Lg,List.getElem?_replicate,iP hl];rfl)
  obtain⟨x,hx⟩:=List.exists_mem_of_ne_nil S hS
  have hb:=DX (nodes.idxOf x) ⟨x,hx,rfl⟩
  rw [hR] at hb
  have hl:=List.idxOf_lt_length_iff.2 (hc x hx).1
  have:R.all id=false:=by
   rw [Bool.eq_false_iff]
   intro ha
   have hm:=List.all_eq_true.1 ha (R[nodes.idxOf x]'om) (Le _)
   rw [Lg,Li om] at hb
   simp at hb hm
   rw [hb] at hm;cases hm
  rw [this];rfl
 |false=>
  obtain⟨fin,hi,_,_,hf⟩:=h2 hr
  have pP:∀x∈nodes,x∈fin:=fun x hx=>(hf x hx).resolve_left (by rw [bZ x hx];simp)
  have hnf:∀x∈fin,x∈nodes:=fun x hx=>hi.sub x ((hi.key x).2 (.inr hx))
  have cW:=UP hi.fd hnf
  have vo:=GX (uses:=uses) (n:=nodes.length) (pl:=fun i=>if h:i<nodes.length then fin.idxOf nodes[i] else 0) (by
   intro i eH u mn
   have hx:nodes[i]∈nodes:=Le eH
   have ki:nodes.idxOf nodes[i]=i:=bf.idxOf_getElem _ _
   have:=de _ hx
   rw [ki] at this
   rw [this] at mn
   obtain⟨y,hy,rfl⟩:=List.mem_map.1 mn
   obtain⟨zN,EV⟩:=List.mem_filter.1 hy
   have zO:leaf y=false:=by simpa using EV
   have EX:y∈nodes:=(bS _ hx y zN).resolve_left (by rw [zO];simp)
   have il:=List.idxOf_lt_length_iff.2 EX
   refine⟨il,?_⟩
   simp only [dif_pos eH,dif_pos il,List.getElem_idxOf il]
   obtain⟨l1,l2,hs⟩:=List.append_of_mem (pP _ hx)
   have fW:nodes[i]∉l1:=fun hm=>by
    have:=hi.fd
    rw [hs] at this
    exact(List.nodup_append.1 this).2.2 _ hm _ Lf rfl
   exact Qux hs fW y ((hi.ord l1 _ l2 hs y zN).resolve_left (by rw [zO];simp))) nodes.length 0 (List.replicate nodes.length false) List.length_replicate (fun i _ h=>absurd h (Nat.not_lt_zero _))
  have:R.all id=true:=by
   refine List.all_eq_true.2 fun b hb=> ?_
   obtain⟨i,eH,rfl⟩:=List.getElem_of_mem hb
   have bV:i<nodes.length:=by omega
   have:=vo i bV (by
    simp only [dif_pos bV]
    have:=List.idxOf_lt_length_iff.2 (pP _ (Le bV))
    omega)
   rw [hR,Lg,Li eH] at this
   exact this
  rw [this];rfl
end
end
def s9 (m:Qz) (k:Nat) (n:BS):Nat:=if XE n 0=64 then(O5 m (n.drop 1)+1).toNat else k
def ta (m:Qz) (n:BS):BS:=if XE n 0=64 then(m.aa.getD (O5 m (n.drop 1)).toNat bj).top else n
def W7 (m:Qz) (k:Nat) (n:BS):Int×Int×Int:=if Vt m n≥0 then(0,0,Vt m n) else if ey m n≥0 then(1,0,ey m n) else(2,(k:Int)-1,fg (Qt m k) n)
def Jm (m:Qz) (k:Nat) (n:BS):Int×Int×Int:=W7 m (s9 m k n) (ta m n)
abbrev tK (t:Int×Int×Int):AV:=.agg [.int .i64 t.1,.int .i64 t.2.1,.int .i64 t.2.2]
section
abbrev Th:=Int×Int×Int
def pz (m:Qz) (t:Th):Xk:=(Qt m (t.2.1+1).toNat).getD t.2.2.toNat aU
def Y9 (t:Th):Bool:=decide (t.1≠2)
def Yx (m:Qz) (k:Nat):List Th:=(List.range (Qt m k).length).map fun(i:Nat)=>((2:Int),(k:Int)-1,(i:Int))
def Z3 (m:Qz) (k:Nat):Nat→List Th
 |0=>[]
 |n+1=>Yx m k++Z3 m (k+1) n
def Q5 (m:Qz):List Th:=Z3 m 0 (m.aa.length+1)
theorem Gn {m:Qz} {k:Nat} {t:Th}:t∈Yx m k↔∃i:Nat,i<(Qt m k).length∧t=(2,(k:Int)-1,(i:Int)):=by
 unfold Yx
 rw [List.mem_map]
 exact⟨fun⟨i,h1,h2⟩=>⟨i,List.mem_range.1 h1,h2.symm⟩,fun⟨i,h1,h2⟩=>⟨i,List.mem_range.2 h1,h2.symm⟩⟩
theorem Au {m:Qz} {t:Th}:∀{n k:Nat},t∈Z3 m k n↔∃j i:Nat,k≤j∧j<k+n∧i<(Qt m j).length∧t=(2,(j:Int)-1,(i:Int))
 |0,k=>⟨fun h=>(by cases h),fun⟨j,i,h1,h2,_⟩=>om⟩
 |n+1,k=>by
  show t∈Yx m k++Z3 m (k+1) n↔_
  rw [List.mem_append,Gn,Au]
  constructor
  ·rintro (⟨i,h1,h2⟩|⟨j,i,h1,h2,h3,h4⟩)
   ·exact⟨k,i,Ac _,by omega,h1,h2⟩
   ·exact⟨j,i,by omega,by omega,h3,h4⟩
  ·rintro ⟨j,i,h1,h2,h3,h4⟩
   by_cases e:j=k
   ·subst e;exact .inl ⟨i,h3,h4⟩
   ·exact .inr ⟨j,i,by omega,by omega,h3,h4⟩
theorem Vx {m:Qz} {t:Th}:t∈Q5 m↔∃j i:Nat,j≤m.aa.length∧i<(Qt m j).length∧t=(2,(j:Int)-1,(i:Int)):=by
 unfold Q5
 rw [Au]
 exact⟨fun⟨j,i,_,h2,h3⟩=>⟨j,i,by omega,h3⟩,fun⟨j,i,h2,h3⟩=>⟨j,i,by omega,by omega,h3⟩⟩
theorem Wf (m:Qz):∀n k,(Z3 m k n).Nodup
 |0,_=>List.nodup_nil
 |n+1,k=>by
  refine List.nodup_append.2 ⟨?_,Wf m n (k+1),fun a ha b hb e=> ?_⟩
  ·unfold Yx
   refine(List.pairwise_map).2 (List.Pairwise.imp (fun {a b} h e=>h ?_) List.nodup_range)
   simp only [Ab] at e
   omega
  ·subst e
   obtain⟨i,_,h1⟩:=Gn.1 ha
   obtain⟨j,i2,h2,_,_,h3⟩:=Au.1 hb
   rw [h1] at h3
   simp only [Ab] at h3
   omega
def VU (m:Qz) (t:Th):List Th:=(pz m t).ak.map (Jm m (t.2.1+1).toNat)
def Y6 (m:Qz):Nat→List (Th×Int)→Th→Bool×List (Th×Int):=UO Y9 (VU m)
def lu (m:Qz):Bool:=(iD (Y6 m ((Q5 m).length+1)) (Q5 m) []).1
def Dd (m:Qz) (k:Nat) (n:BS):Prop:=0<n.length∧(XE n 0=64→0≤O5 m (n.drop 1))∧(Y9 (Jm m k n)=true∨Jm m k n∈Q5 m)
def yL (m:Qz):Prop:=∀k,k≤m.aa.length→∀i,i<(Qt m k).length→∀n∈((Qt m k).getD i aU).ak,Dd m k n
theorem Wg {m:Qz}:∀t∈Q5 m,Y9 t=false:=fun t h=>by
 obtain⟨j,i,_,_,rfl⟩:=Vx.1 h
 rfl
theorem K7 {m:Qz} (h:yL m):∀t∈Q5 m,∀x∈VU m t,Y9 x=true∨x∈Q5 m:=fun t ht x hx=>by
 obtain⟨j,i,h1,h2,rfl⟩:=Vx.1 ht
 have e:VU m (2,(j:Int)-1,(i:Int))=((Qt m j).getD i aU).ak.map (Jm m j):=by
  unfold VU pz
  dsimp only
  rw [show((j:Int)-1+1).toNat=j from by omega,Int.toNat_natCast]
 rw [e] at hx
 obtain⟨n,hn,rfl⟩:=List.mem_map.1 hx
 exact(h j h1 i h2 n hn).2.2
variable {α σ : Type}
theorem Vf {a b:Int}:Z2 a b=0↔a=0∧b=0:=by
 unfold Z2
 split
 ·rename_i h;exact⟨fun e=>⟨h,e⟩,fun e=>e.2⟩
 ·rename_i h;exact⟨fun e=>absurd e h,fun e=>absurd e.1 h⟩
theorem ur {f:Nat→α→Int} (d:α):∀{l:List α} {i:Nat},XU f l i=0→∀j,j<l.length→f (i+j) (l.getD j d)=0
 |x::l,i,h,j,hj=>by
  unfold XU at h
  split at h
  ·rename_i h0
   cases j with
   |zero=>simpa using h0
   |succ j=>
    have:=ur d h j (by simpa using hj)
    rw [show i+(j+1)=i+1+j from by omega]
    simpa using this
  ·rename_i h0;exact absurd h h0
theorem CH {f:Nat→α→σ→Int×σ} (d:α):∀{l:List α} {i:Nat} {s:σ},(XT f l i s).1=0→∀j,j<l.length→∃s,(f (i+j) (l.getD j d) s).1=0
 |x::l,i,s,h,j,hj=>by
  unfold XT at h
  split at h
  ·rename_i h0
   cases j with
   |zero=>exact⟨s,by simpa using h0⟩
   |succ j=>
    obtain⟨s',h'⟩:=CH d h j (by simpa using hj)
    refine⟨s',?_⟩
    rw [show i+(j+1)=i+1+j from by omega]
    simpa using h'
  ·rename_i h0;exact absurd h h0
theorem uu {f:Nat→σ→Int×σ}:∀{n i:Nat} {s:σ},(Kw f n i s).1=0→∀j,j<n→∃s,(f (i+j) s).1=0
 |n+1,i,s,h,j,hj=>by
  unfold Kw at h
  split at h
  ·rename_i h0
   cases j with
   |zero=>exact⟨s,h0⟩
   |succ j=>
    obtain⟨s',h'⟩:=uu h j om
    refine⟨s',?_⟩
    rw [show i+(j+1)=i+1+j from by omega]
    exact h'
  ·rename_i h0;exact absurd h h0
theorem KA {p:α→Bool} (d:α):∀{l:List α},0≤Xj p l→∃i:Nat,Xj p l=i∧i<l.length∧p (l.getD i d)=true
 |[],h=>absurd (show(0:Int)≤ -1 from h) Af
 |x::l,h=>by
  unfold Xj at h⊢
  by_cases h0:p x=true
  ·rw [iP h0]
   exact⟨0,rfl,by simp,by simpa using h0⟩
  ·rw [iN h0] at h⊢
   by_cases h1:Xj p l<0
   ·rw [iP h1] at h;omega
   ·rw [iN h1]
    obtain⟨i,h2,h3,h4⟩:=KA (p:=p) d (l:=l) om
    exact⟨i+1,by omega,by simpa using h3,by simpa using h4⟩
structure qu (m:Qz):Prop where
 ev:∀i,i<m.events.length→QD (m.events.getD i bn).name=true
 hs:∀i,i<m.af.length→QD (m.af.getD i bw).name=true
 gt:∀k,k≤m.aa.length→∀i,i<(Qt m k).length→fU m k i ((Qt m k).getD i aU)=0
 aZ:∀k,k≤m.aa.length→∀i,i<(Qt m k).length→∀n∈((Qt m k).getD i aU).ak,Yg m k n=true
 tp:∀k,k<m.aa.length→0≤fg (m.aa.getD k bj).an (m.aa.getD k bj).top∨0≤Vt m (m.aa.getD k bj).top
 top:Yg m 0 m.top=true
theorem GY {m:Qz} (h:Vu m=0):qu m:=by
 unfold Vu at h
 obtain⟨_,h⟩:=Vf.1 h
 obtain⟨h1,h⟩:=Vf.1 h
 obtain⟨_,h⟩:=Vf.1 h
 obtain⟨h3,h⟩:=Vf.1 h
 obtain⟨h4,h⟩:=Vf.1 h
 obtain⟨h5,_⟩:=Vf.1 h
 unfold Jw at h1
 split at h1
 ·cases h1
 obtain⟨h1,h2⟩:=Vf.1 h1
 split at h2
 ·cases h2
 refine⟨fun i hi=> ?_,fun i hi=> ?_,fun k hk i hi=> ?_,fun k hk i hi n hn=> ?_,fun k hk=> ?_,?_⟩
 ·have:=ur bn h1 i hi
  unfold jl at this
  split at this
  ·cases this
  ·rename_i e;simpa using e
 ·have:=ur bw h2 i hi
  unfold iL at this
  split at this
  ·cases this
  ·rename_i e;simpa using e
 ·obtain⟨_,hg⟩:=uu h3 k om
  rw [Nz] at hg
  have:=ur aU (show XU (fU m k) (Qt m k) 0=0 from hg) i hi
  rwa [Nz] at this
 ·obtain⟨s,hg⟩:=uu h4 k om
  rw [Nz] at hg
  unfold Ud at hg
  split at hg
  ·rename_i e
   obtain⟨s2,h6⟩:=CH aU e i hi
   obtain⟨j,hj,rfl⟩:=List.getElem_of_mem hn
   obtain⟨s3,h7⟩:=CH ([]:BS) (show(XT (O6 m k ((Qt m k).getD i aU)) ((Qt m k).getD i aU).ak 0 s2).1=0 from h6) j hj
   rw [Nz,show((Qt m k).getD i aU).ak.getD j []=((Qt m k).getD i aU).ak[j] from by rw [Lg,Li hj];rfl] at h7
   unfold O6 at h7
   split at h7
   ·cases h7
   ·rename_i e;simpa using e
  ·rename_i e;exact absurd hg e
 ·obtain⟨s,hg⟩:=uu h4 (k+1) om
  rw [Nz] at hg
  unfold Ud at hg
  split at hg
  ·dsimp only [ju] at hg
   split at hg
   ·cases hg
   ·rename_i e;omega
  ·rename_i e;exact absurd hg e
 ·split at h5
  ·assumption
  ·cases h5
theorem BW {s:BS} (h:QD s=true):0<s.length:=by
 unfold QD at h
 simp only [Ba,Dq] at h
 exact h.1.1.1
theorem Mi {m:Qz} {k:Nat} {n:BS} (hk:k≤m.aa.length) (h:0≤Vt m n∨0≤ey m n∨0≤fg (Qt m k) n):Y9 (W7 m k n)=true∨W7 m k n∈Q5 m:=by
 unfold W7
 by_cases h1:Vt m n≥0
 ·rw [iP h1];exact .inl rfl
 ·rw [iN h1]
  by_cases h2:ey m n≥0
  ·rw [iP h2];exact .inl rfl
  ·rw [iN h2]
   have h3:0≤fg (Qt m k) n:=by omega
   obtain⟨i,h4,h5,_⟩:=KA aU h3
   exact .inr (Vx.2 ⟨k,i,hk,h5,by rw [show fg (Qt m k) n=i from h4]⟩)
theorem Qsy {m:Qz} (h:qu m) {k:Nat} (hk:k≤m.aa.length) {n:BS} (hi:Yg m k n=true):Dd m k n:=by
 unfold Yg at hi
 by_cases h0:0<n.length∧XE n 0=64
 ·rw [iP h0] at hi
  have hp:0≤O5 m (n.drop 1):=by simpa using hi
  obtain⟨q,h4,h5,_⟩:=KA bj hp
  refine⟨h0.1,fun _=>hp,?_⟩
  unfold Jm s9 ta
  rw [iP h0.2,iP h0.2,show O5 m (n.drop 1)=q from h4,show((q:Int)+1).toNat=q+1 from by omega,Int.toNat_natCast]
  refine Mi om ?_
  rcases h.tp q h5 with e|e
  ·exact .inr (.inr e)
  ·exact .inl e
 ·rw [iN h0] at hi
  simp only [Bool.or_eq_true,Dq] at hi
  have hp:0<n.length:=by
   cases n with
   |cons=>simp
   |nil=>
    exfalso
    rcases hi with (hi|hi)|hi
    ·obtain⟨i,_,h5,h6⟩:=KA bn hi
     have:=BW (h.ev i h5)
     rw [show(m.events.getD i bn).name=[] from by simpa using h6] at this
     cases this
    ·obtain⟨i,_,h5,h6⟩:=KA bw hi
     have:=BW (h.hs i h5)
     rw [show(m.af.getD i bw).name=[] from by simpa using h6] at this
     cases this
    ·obtain⟨i,_,h5,h6⟩:=KA aU hi
     have h7:=h.gt k hk i h5
     have e:((Qt m k).getD i aU).name=[]:=by simpa using h6
     unfold fU at h7
     split at h7
     ·cases h7
     ·rename_i h8
      have:=BW (s:=((Qt m k).getD i aU).name) (by simpa using h8)
      rw [e] at this
      cases this
  have eU:¬XE n 0=64:=fun e=>h0 ⟨hp,e⟩
  refine⟨hp,fun e=>absurd e eU,?_⟩
  unfold Jm s9 ta
  rw [iN eU,iN eU]
  refine Mi hk ?_
  rcases hi with (hi|hi)|hi
  ·exact .inl hi
  ·exact .inr (.inl hi)
  ·exact .inr (.inr hi)
theorem yj {m:Qz} (h:qu m):yL m:=fun k hk i hi n hn=>Qsy h hk (h.aZ k hk i hi n hn)
end
def mh (m:Qz) (k:Nat) (n:BS):Int×Int×Int:=if Vt m n≥0 then(0,0,Vt m n) else if ey m n≥0 then(1,0,ey m n) else if fg (Qt m k) n≥0 then(2,(k:Int)-1,fg (Qt m k) n) else(-1,0,0)
def qN (m:Qz) (k:Nat) (n:BS):Int×Int×Int:=if 0<n.length∧XE n 0=64 then(if O5 m (n.drop 1)<0 then(-1,0,0) else mh m (O5 m (n.drop 1)+1).toNat (m.aa.getD (O5 m (n.drop 1)).toNat bj).top) else mh m k n
def YQ (m:Qz):Nat→Int
 |0=>0
 |k+1=>YQ m k+(Qt m k).length
def lv (k:Int):Int×Int:=if k=0∨k=1∨k=4∨k=2 then(1,16) else if k=3 then(1,1) else if k=5 then(2,2) else if k=6∨k=7∨k=8 then(2,16) else(0,0)
theorem CI {m:Qz} (hl:∀k,(Qt m k).length≤1048576):∀k,0≤YQ m k∧YQ m k≤1048576*k
 |0=>⟨Int.le_refl _,Int.le_refl _⟩
 |k+1=>by
  have h1:=CI hl k
  have h2:=hl k
  unfold YQ
  omega
section
variable {α : Type}
theorem xe {p:α→Bool}:∀{l:List α} {i:Nat} (h:i<l.length),p l[i]=true→0≤Xj p l∧Xj p l≤i
 |x::l,i,h,hp=>by
  unfold Xj
  by_cases h0:p x=true
  ·rw [iP h0];exact⟨by omega,by omega⟩
  ·rw [iN h0]
   cases i with
   |zero=>exact absurd hp h0
   |succ i=>
    obtain⟨a,b⟩:=xe (p:=p) (l:=l) (i:=i) (by simpa using h) (by simpa using hp)
    rw [iN om]
    omega
theorem AR {p:α→Bool}:∀{l:List α},0≤Xj p l→∃i,∃h:i<l.length,Xj p l=(i:Int)∧p l[i]=true
 |[],h=>absurd (show(0:Int)≤ -1 from h) Af
 |x::l,h=>by
  unfold Xj at h⊢
  by_cases h0:p x=true
  ·rw [iP h0];exact⟨0,by simp,rfl,h0⟩
  ·rw [iN h0] at h⊢
   by_cases h1:Xj p l<0
   ·rw [iP h1] at h;omega
   ·rw [iN h1]
    obtain⟨i,h2,h3,h4⟩:=AR (p:=p) (l:=l) om
    exact⟨i+1,by simpa using h2,by omega,by simpa using h4⟩
theorem Or (f:α→BS) (l:List α) (n:BS):0≤Xj (fun x=>f x==n) l↔n∈l.map f:=by
 constructor
 ·intro h
  obtain⟨i,hi,_,h2⟩:=AR h
  exact List.mem_map.2 ⟨l[i],Le hi,by simpa using h2⟩
 ·intro h
  obtain⟨x,hx,rfl⟩:=List.mem_map.1 h
  obtain⟨i,hi,rfl⟩:=List.getElem_of_mem hx
  exact(xe (p:=fun x=>f x==f l[i]) hi (by simp)).1
theorem Wh (f:α→BS) (l:List α):(∀j (h:j<l.length),¬Xj (fun x=>f x==f l[j]) l<(j:Int))↔(l.map f).Nodup:=by
 rw [List.nodup_iff_pairwise_ne,List.pairwise_iff_getElem]
 constructor
 ·intro h i j hi hj P0 e
  rw [Lw] at hi hj
  rw [List.getElem_map,List.getElem_map] at e
  have:=(xe (p:=fun x=>f x==f l[j]) hi (by rw [e];simp)).2
  exact h j hj om
 ·intro h j hj aD
  have h0:=(xe (p:=fun x=>f x==f l[j]) hj (by simp)).1
  obtain⟨i,hi,h1,h2⟩:=AR h0
  have:=h i j (by rw [Lw];exact hi) (by rw [Lw];exact hj) om
  rw [List.getElem_map,List.getElem_map] at this
  exact this (by simpa using h2)
theorem Jn {f:Nat→α→Int}:∀(l:List α) (i:Nat),XU f l i=0↔∀j (h:j<l.length),f (i+j) l[j]=0
 |[],i=>⟨fun _ j h=>absurd h (by simp),fun _=>rfl⟩
 |x::l,i=>by
  have ih:=Jn (f:=f) l (i+1)
  unfold XU
  constructor
  ·intro h j hj
   split at h
   ·rename_i h0
    cases j with
    |zero=>exact h0
    |succ j=>
     have:=(ih.1 h) j (by simpa using hj)
     rw [show i+(j+1)=i+1+j from by omega]
     exact this
   ·rename_i h0;exact absurd h h0
  ·intro h
   rw [iP (show f i x=0 from h 0 (by simp))]
   refine ih.2 fun j hj=> ?_
   have:=h (j+1) (by simpa using hj)
   rw [show i+(j+1)=i+1+j from by omega] at this
   exact this
theorem W8 {f:Nat→α→List BS→Int×List BS} {A:Nat→α→Prop} {g:α→List BS} (hf:∀i x s,s.Nodup→(((f i x s).1=0↔A i x∧(s++g x).Nodup)∧((f i x s).1=0→(f i x s).2=s++g x))):∀(l:List α) (i:Nat) (s:List BS),s.Nodup→(((XT f l i s).1=0↔(∀j (h:j<l.length),A (i+j) l[j])∧(s++l.flatMap g).Nodup)∧((XT f l i s).1=0→(XT f l i s).2=s++l.flatMap g))
 |[],i,s,hs=>⟨⟨fun _=>⟨fun j h=>absurd h (by simp),by simpa using hs⟩,fun _=>rfl⟩,fun _=>by simp [XT]⟩
 |x::l,i,s,hs=>by
  obtain⟨h1,h2⟩:=hf i x s hs
  by_cases h0:(f i x s).1=0
  ·have hn:=h1.1 h0
   have e:=h2 h0
   obtain⟨i1,i2⟩:=W8 hf l (i+1) (s++g x) hn.2
   have hu:XT f (x::l) i s=XT f l (i+1) (s++g x):=by
    show(if(f i x s).1=0 then XT f l (i+1) (f i x s).2 else f i x s)=_
    rw [iP h0,e]
   rw [hu,List.flatMap_cons,←Lo]
   refine⟨i1.trans ⟨fun h=>⟨fun j hj=> ?_,h.2⟩,fun h=>⟨fun j hj=> ?_,h.2⟩⟩,i2⟩
   ·cases j with
    |zero=>exact hn.1
    |succ j=>
     have:=h.1 j (by simpa using hj)
     rw [show i+(j+1)=i+1+j from by omega]
     exact this
   ·have:=h.1 (j+1) (by simpa using hj)
    rw [show i+(j+1)=i+1+j from by omega] at this
    exact this
  ·have hu:XT f (x::l) i s=f i x s:=by
    show(if(f i x s).1=0 then XT f l (i+1) (f i x s).2 else f i x s)=_
    rw [iN h0]
   rw [hu]
   refine⟨⟨fun h=>absurd h h0,fun h=> ?_⟩,fun h=>absurd h h0⟩
   refine h1.2 ⟨h.1 0 (by simp),?_⟩
   have h3:=h.2
   rw [List.flatMap_cons,←Lo] at h3
   exact(List.nodup_append.1 h3).1
theorem II {f:Nat→List BS→Int×List BS} {A:Nat→Prop} {g:Nat→List BS} (hf:∀i s,s.Nodup→(((f i s).1=0↔A i∧(s++g i).Nodup)∧((f i s).1=0→(f i s).2=s++g i))):∀(n i:Nat) (s:List BS),s.Nodup→((Kw f n i s).1=0↔(∀j,j<n→A (i+j))∧(s++(List.range' i n).flatMap g).Nodup)
 |0,i,s,hs=>⟨fun _=>⟨fun j h=>absurd h (by simp),by simpa using hs⟩,fun _=>rfl⟩
 |n+1,i,s,hs=>by
  obtain⟨h1,h2⟩:=hf i s hs
  rw [List.range'_succ,List.flatMap_cons,←Lo]
  by_cases h0:(f i s).1=0
  ·have hn:=h1.1 h0
   have i1:=II hf n (i+1) (s++g i) hn.2
   have hu:Kw f (n+1) i s=Kw f n (i+1) (s++g i):=by
    show(if(f i s).1=0 then Kw f n (i+1) (f i s).2 else f i s)=_
    rw [iP h0,h2 h0]
   rw [hu]
   refine i1.trans ⟨fun h=>⟨fun j hj=> ?_,h.2⟩,fun h=>⟨fun j hj=> ?_,h.2⟩⟩
   ·cases j with
    |zero=>exact hn.1
    |succ j=>
     have:=h.1 j om
     rw [show i+(j+1)=i+1+j from by omega]
     exact this
   ·have:=h.1 (j+1) om
    rw [show i+(j+1)=i+1+j from by omega] at this
    exact this
  ·have hu:Kw f (n+1) i s=f i s:=by
    show(if(f i s).1=0 then Kw f n (i+1) (f i s).2 else f i s)=_
    rw [iN h0]
   rw [hu]
   refine⟨fun h=>absurd h h0,fun h=> ?_⟩
   exact h1.2 ⟨h.1 0 om,(List.nodup_append.1 h.2).1⟩
abbrev ff (m:Qz):List BS:=m.events.map X7.name
abbrev rT (m:Qz):List BS:=m.af.map Vq.name
abbrev Aj (m:Qz):List BS:=m.aa.map YT.name
abbrev pH (L:List Xk):List BS:=L.map Xk.name
def sD (m:Qz) (L:List Xk) (i:BS):Prop:=(0<i.length∧XE i 0=64)∧i.drop 1∈Aj m∨¬(0<i.length∧XE i 0=64)∧(i∈ff m∨i∈rT m∨i∈pH L)
def pA (x:Xk):List BS:=if x.kind=7 then x.ak else []
def RZ (m:Qz) (L:List Xk) (x:Xk):Prop:=QD x.name=true∧x.name∉ff m∧x.name∉rT m∧UI x=0∧(∀i∈x.ak,sD m L i)∧(x.kind=7→∀i∈x.ak,i∈ff m)∧(x.kind=8→∀i∈x.ak.drop 1,i∈ff m)
def sA (m:Qz) (L:List Xk):Prop:=(pH L).Nodup∧∀x∈L,RZ m L x
def wm (x:X7):Prop:=QD x.name=true∧x.p.bI=true∧OK x.fail=true∧OK x.rep=true∧0≤x.cost∧x.cost≤1073741824
def tR (m:Qz) (x:YU):Prop:=QD x.name=true∧(x.kind=0∨x.kind=1)∧(2≤(x.members.length:Int)∧(x.members.length:Int)≤(if x.kind=1 then 4 else 24)∧(x.ar.length:Int)=(if x.kind=1 then(x.members.length:Int)-1 else 1))∧(∀n∈x.members,n∈ff m)∧x.ar.all RD.bI=true
def wq (m:Qz) (x:Ke):Prop:=QD x.name=true∧sD m m.an x.top∧(∀v∈x.values,v.event∈ff m∧v.p.bI=true)∧(x.values.map Zh.event).Nodup
structure Good (m:Qz):Prop where
 nm:QD m.name=true
 uM:m.events.length≤24
 ev:∀x∈m.events,wm x
 Pe:(ff m).Nodup
 cq:m.af.length≤16
 hs:∀x∈m.af,QD x.name=true∧x.name∉ff m
 jL:(rT m).Nodup
 Ak:m.aa.length≤8
 uU:pI m≤64
 pg:∀x∈m.aa,QD x.name=true∧sA m x.an∧(x.top∈pH x.an∨x.top∈ff m)
 RF:(Aj m).Nodup
 gt:sA m m.an
 sp:((m.an++m.aa.flatMap YT.an).flatMap pA).Nodup
 tp:sD m m.an m.top
 y9:m.ae.length≤8
 gr:∀x∈m.ae,tR m x
 Pq:(m.ae.map YU.name).Nodup
 grm:(m.ae.flatMap YU.members).Nodup
 Am:m.ai.length≤6
 ph:∀x∈m.ai,wq m x
 phn:(m.ai.map Ke.name).Nodup
theorem JP (m:Qz) (n:BS):Vt m n<0↔n∉ff m:=by
 rw [←Or X7.name m.events n];exact⟨fun h=>by unfold Vt at h;omega,fun h=>by unfold Vt;omega⟩
theorem Mj (m:Qz) (n:BS):ey m n<0↔n∉rT m:=by
 rw [←Or Vq.name m.af n];exact⟨fun h=>by unfold ey at h;omega,fun h=>by unfold ey;omega⟩
theorem Mk (L:List Xk) (n:BS):fg L n<0↔n∉pH L:=by
 rw [←Or Xk.name L n];exact⟨fun h=>by unfold fg at h;omega,fun h=>by unfold fg;omega⟩
theorem Qsz (m:Qz) (n:BS):O5 m n<0↔n∉Aj m:=by
 rw [←Or YT.name m.aa n];exact⟨fun h=>by unfold O5 at h;omega,fun h=>by unfold O5;omega⟩
theorem xh (m:Qz) (k:Nat) (i:BS):Yg m k i=true↔sD m (Qt m k) i:=by
 have e1:=JP m i
 have e2:=Mj m i
 have e3:=Mk (Qt m k) i
 have e4:=Qsz m (i.drop 1)
 unfold Yg sD
 by_cases h:0<i.length∧XE i 0=64
 ·rw [iP h]
  simp only [Dq]
  constructor
  ·intro z;exact .inl ⟨h,Classical.byContradiction fun y=>by have:=e4.2 y;omega⟩
  ·rintro (⟨_,z⟩|⟨z,_⟩)
   ·exact Classical.byContradiction fun y=>e4.1 om z
   ·exact absurd h z
 ·rw [iN h]
  simp only [Bool.or_eq_true,Dq]
  constructor
  ·rintro ((z|z)|z)
   ·exact .inr ⟨h,.inl (Classical.byContradiction fun y=>by have:=e1.2 y;omega)⟩
   ·exact .inr ⟨h,.inr (.inl (Classical.byContradiction fun y=>by have:=e2.2 y;omega))⟩
   ·exact .inr ⟨h,.inr (.inr (Classical.byContradiction fun y=>by have:=e3.2 y;omega))⟩
  ·rintro (⟨z,_⟩|⟨_,z|z|z⟩)
   ·exact absurd z h
   ·exact .inl (.inl (Classical.byContradiction fun y=>e1.1 om z))
   ·exact .inl (.inr (Classical.byContradiction fun y=>e2.1 om z))
   ·exact .inr (Classical.byContradiction fun y=>e3.1 om z)
end
section
variable {α β : Type}
theorem VV {c:Prop} [Decidable c] {k a:Int} (hk:k≠0):(if c then k else a)=0↔¬c∧a=0:=by
 by_cases h:c
 ·rw [iP h];exact⟨fun e=>absurd e hk,fun e=>absurd h e.1⟩
 ·rw [iN h];exact⟨fun e=>⟨h,e⟩,fun e=>e.2⟩
theorem KX {P:α→Prop} {l:List α}:(∀j (h:j<l.length),P l[j])↔∀x∈l,P x:=by
 constructor
 ·intro h x hx
  obtain⟨i,hi,rfl⟩:=List.getElem_of_mem hx
  exact h i hi
 ·exact fun h j hj=>h _ (Le hj)
theorem QvU (m:Qz):XU (jl m) m.events 0=0↔(∀x∈m.events,wm x)∧(ff m).Nodup:=by
 rw [Jn,←Wh X7.name,←KX]
 have h:∀(j:Nat) (x:X7),jl m j x=0↔wm x∧¬Vt m x.name<j:=fun j x=>by
  unfold jl wm
  rw [VV Af,VV Af,VV Af]
  simp only [Bool.not_eq_false,not_or,Int.not_lt]
  constructor
  ·rintro ⟨a,b,⟨c,d,e,f,g⟩,_⟩;exact⟨⟨a,c,d,e,f,by omega⟩,by omega⟩
  ·rintro ⟨⟨a,c,d,e,f,g⟩,b⟩;exact⟨a,by omega,⟨c,d,e,f,by omega⟩,trivial⟩
 constructor
 ·exact fun z=>⟨fun j hj=>((h _ _).1 (z j hj)).1,fun j hj=>by have:=((h _ _).1 (z j hj)).2;rw [Nz] at this;exact this⟩
 ·rintro ⟨a,b⟩ j hj
  exact(h _ _).2 ⟨a j hj,by rw [Nz];exact b j hj⟩
theorem QvV (m:Qz):XU (iL m) m.af 0=0↔(∀x∈m.af,QD x.name=true∧x.name∉ff m)∧(rT m).Nodup:=by
 rw [Jn,←Wh Vq.name,←KX]
 have h:∀(j:Nat) (x:Vq),iL m j x=0↔(QD x.name=true∧x.name∉ff m)∧¬ey m x.name<j:=fun j x=>by
  have:=JP m x.name
  unfold iL
  rw [VV Af,VV Af,←this]
  simp only [Bool.not_eq_false,not_or]
  constructor
  ·rintro ⟨a,⟨b,c⟩,_⟩;exact⟨⟨a,by omega⟩,c⟩
  ·rintro ⟨⟨a,b⟩,c⟩;exact⟨a,⟨by omega,c⟩,trivial⟩
 constructor
 ·exact fun z=>⟨fun j hj=>((h _ _).1 (z j hj)).1,fun j hj=>by have:=((h _ _).1 (z j hj)).2;rw [Nz] at this;exact this⟩
 ·rintro ⟨a,b⟩ j hj
  exact(h _ _).2 ⟨a j hj,by rw [Nz];exact b j hj⟩
theorem QvW (m:Qz):XU (jt m) m.aa 0=0↔(∀x∈m.aa,QD x.name=true)∧(Aj m).Nodup:=by
 rw [Jn,←Wh YT.name,←KX]
 have h:∀(j:Nat) (x:YT),jt m j x=0↔QD x.name=true∧¬O5 m x.name<j:=fun j x=>by
  unfold jt
  rw [VV Af,VV Af]
  simp only [Bool.not_eq_false]
  exact⟨fun z=>⟨z.1,z.2.1⟩,fun z=>⟨z.1,z.2,trivial⟩⟩
 constructor
 ·exact fun z=>⟨fun j hj=>((h _ _).1 (z j hj)).1,fun j hj=>by have:=((h _ _).1 (z j hj)).2;rw [Nz] at this;exact this⟩
 ·rintro ⟨a,b⟩ j hj
  exact(h _ _).2 ⟨a j hj,by rw [Nz];exact b j hj⟩
def sC (m:Qz) (L:List Xk):Prop:=(pH L).Nodup∧∀x∈L,QD x.name=true∧x.name∉ff m∧x.name∉rT m∧UI x=0
theorem Ny (m:Qz) (k:Nat):UJ m k=0↔sC m (Qt m k):=by
 unfold UJ sC
 rw [Jn,←Wh Xk.name,←KX]
 have h:∀(j:Nat) (x:Xk),fU m k j x=0↔(QD x.name=true∧x.name∉ff m∧x.name∉rT m∧UI x=0)∧¬fg (Qt m k) x.name<j:=fun j x=>by
  have e1:=JP m x.name
  have e2:=Mj m x.name
  unfold fU
  rw [VV Af,VV Af,←e1,←e2]
  simp only [Bool.not_eq_false,not_or]
  constructor
  ·rintro ⟨a,⟨b,c,d⟩,e⟩;exact⟨⟨a,by omega,by omega,e⟩,d⟩
  ·rintro ⟨⟨a,b,c,e⟩,d⟩;exact⟨a,⟨by omega,by omega,d⟩,e⟩
 constructor
 ·exact fun z=>⟨fun j hj=>by have:=((h _ _).1 (z j hj)).2;rw [Nz] at this;exact this,fun j hj=>((h _ _).1 (z j hj)).1⟩
 ·rintro ⟨b,a⟩ j hj
  exact(h _ _).2 ⟨a j hj,by rw [Nz];exact b j hj⟩
theorem GZ {f:Nat→Unit→Int×Unit}:∀(n i:Nat),(Kw f n i ()).1=0↔∀j,j<n→(f (i+j) ()).1=0
 |0,i=>⟨fun _ j h=>absurd h (by simp),fun _=>rfl⟩
 |n+1,i=>by
  have ih:=GZ (f:=f) n (i+1)
  have hu:Kw f (n+1) i ()=if(f i ()).1=0 then Kw f n (i+1) () else f i ():=rfl
  rw [hu]
  constructor
  ·intro h j hj
   split at h
   ·rename_i h0
    cases j with
    |zero=>exact h0
    |succ j=>
     have:=(ih.1 h) j om
     rw [show i+(j+1)=i+1+j from by omega]
     exact this
   ·rename_i h0;exact absurd h h0
  ·intro h
   rw [iP (show(f i ()).1=0 from h 0 om)]
   refine ih.2 fun j hj=> ?_
   have:=h (j+1) om
   rw [show i+(j+1)=i+1+j from by omega] at this
   exact this
theorem QpY (m:Qz) (Q:List Xk→Prop):(∀k,k≤m.aa.length→Q (Qt m k))↔Q m.an∧∀x∈m.aa,Q x.an:=by
 have e:∀k (h:k<m.aa.length),Qt m (k+1)=m.aa[k].an:=fun k h=>by
  show(m.aa.getD k bj).an=_
  rw [Lg,Li h];rfl
 constructor
 ·intro h
  refine⟨h 0 (Lz _),fun x hx=> ?_⟩
  obtain⟨i,hi,rfl⟩:=List.getElem_of_mem hx
  rw [←e i hi]
  exact h (i+1) om
 ·rintro ⟨a,b⟩ k hk
  cases k with
  |zero=>exact a
  |succ k=>rw [e k om];exact b _ (Le _)
theorem QvX (m:Qz):(Kw (fun k (_:Unit)=>(UJ m k,())) (m.aa.length+1) 0 ()).1=0↔sC m m.an∧∀x∈m.aa,sC m x.an:=by
 rw [GZ,←QpY m (sC m)]
 constructor
 ·intro h k hk
  have:=h k om
  rw [Nz] at this
  exact(Ny m k).1 this
 ·intro h j hj
  rw [Nz]
  exact(Ny m j).2 (h j om)
def nU (m:Qz) (L:List Xk) (x:Xk):Prop:=(∀i∈x.ak,sD m L i)∧(x.kind=7→∀i∈x.ak,i∈ff m)∧(x.kind=8→∀i∈x.ak.drop 1,i∈ff m)
theorem Ml {s:List BS} (hs:s.Nodup) (i:BS):(s++[i]).Nodup↔s.contains i=false:=by
 rw [List.nodup_append]
 constructor
 ·rintro ⟨_,_,h⟩
  rw [Bool.eq_false_iff]
  intro e
  exact h i (List.contains_iff_mem.1 e) i (by simp) rfl
 ·intro h
  refine⟨hs,by simp,fun a ha b hb e=> ?_⟩
  rw [Lv] at hb
  subst hb e
  rw [List.contains_iff_mem.2 ha] at h
  cases h
theorem QsA (m:Qz) (k:Nat) (x:Xk) (j:Nat) (i:BS) (s:List BS) (hs:s.Nodup):
  ((O6 m k x j i s).1=0↔(Yg m k i=true∧¬(V5 x j=true∧Vt m i<0))∧(s++(if x.kind=7 then [i] else [])).Nodup)∧((O6 m k x j i s).1=0→(O6 m k x j i s).2=s++(if x.kind=7 then [i] else [])):=by
 unfold O6
 by_cases h1:Yg m k i=false
 ·rw [iP h1]
  exact⟨⟨fun e=>absurd e (by dsimp only;decide),fun e=>absurd e.1.1 (by rw [h1];simp)⟩,fun e=>absurd e (by dsimp only;decide)⟩
 rw [iN h1]
 by_cases h2:V5 x j=true∧Vt m i<0
 ·rw [iP h2]
  exact⟨⟨fun e=>absurd e (by dsimp only;decide),fun e=>absurd h2 e.1.2⟩,fun e=>absurd e (by dsimp only;decide)⟩
 rw [iN h2]
 by_cases h3:x.kind=7
 ·rw [iP h3,iP h3,Ml hs]
  by_cases h4:s.contains i=true
  ·rw [iP h4]
   exact⟨⟨fun e=>absurd e (by dsimp only;decide),fun e=>absurd e.2 (by rw [h4];simp)⟩,fun e=>absurd e (by dsimp only;decide)⟩
  ·rw [iN h4]
   exact⟨⟨fun _=>⟨⟨by simpa using h1,h2⟩,by simpa using h4⟩,fun _=>rfl⟩,fun _=>rfl⟩
 ·rw [iN h3,iN h3,Lp]
  exact⟨⟨fun _=>⟨⟨by simpa using h1,h2⟩,hs⟩,fun _=>rfl⟩,fun _=>rfl⟩
theorem QsB (x:Xk):(x.ak.flatMap fun i=>if x.kind=7 then [i] else [])=pA x:=by
 unfold pA
 split
 ·induction x.ak with
  |nil=>rfl
  |cons a l ih=>rw [List.flatMap_cons,ih];rfl
 ·induction x.ak with
  |nil=>rfl
  |cons a l ih=>rw [List.flatMap_cons,ih];rfl
theorem QuA (m:Qz) (k:Nat) (x:Xk):(∀j (h:j<x.ak.length),Yg m k x.ak[j]=true∧¬(V5 x j=true∧Vt m x.ak[j]<0))↔nU m (Qt m k) x:=by
 have hm:∀j,V5 x j=true↔x.kind=7∨x.kind=8∧0<j:=fun j=>by unfold V5;simp
 have hn:∀i,(¬Vt m i<0)↔i∈ff m:=fun i=>by rw [JP];exact Classical.not_not
 constructor
 ·intro h
  refine⟨fun i hi=> ?_,fun h7 i hi=> ?_,fun h8 i hi=> ?_⟩
  ·obtain⟨j,hj,rfl⟩:=List.getElem_of_mem hi
   exact(xh m k _).1 (h j hj).1
  ·obtain⟨j,hj,rfl⟩:=List.getElem_of_mem hi
   exact(hn _).1 fun z=>(h j hj).2 ⟨(hm j).2 (.inl h7),z⟩
  ·obtain⟨j,hj,rfl⟩:=List.getElem_of_mem hi
   rw [List.length_drop] at hj
   rw [List.getElem_drop]
   exact(hn _).1 fun z=>(h (1+j) om).2 ⟨(hm _).2 (.inr ⟨h8,by omega⟩),z⟩
 ·rintro ⟨a,b,c⟩ j hj
  refine⟨(xh m k _).2 (a _ (Le hj)),fun⟨z1,z2⟩=> ?_⟩
  rcases(hm j).1 z1 with h7|⟨h8,h0⟩
  ·exact(hn _).2 (b h7 _ (Le hj)) z2
  ·have:x.ak[j]∈x.ak.drop 1:=by
    rw [List.mem_drop_iff_getElem]
    exact⟨j-1,by omega,by congr 1;omega⟩
   exact(hn _).2 (c h8 _ this) z2
theorem QsC (m:Qz) (k:Nat) (s:List BS) (hs:s.Nodup):((Ud m k s).1=0↔((∀x∈Qt m k,nU m (Qt m k) x)∧ju m k=0)∧(s++(Qt m k).flatMap pA).Nodup)∧((Ud m k s).1=0→(Ud m k s).2=s++(Qt m k).flatMap pA):=by
 have h1:=W8 (f:=mu m k) (A:=fun _ x=>nU m (Qt m k) x) (g:=pA) (fun i x s hs=>by
  have h:=W8 (f:=O6 m k x) (A:=fun j i=>Yg m k i=true∧¬(V5 x j=true∧Vt m i<0)) (g:=fun i=>if x.kind=7 then [i] else []) (fun j i s hs=>QsA m k x j i s hs) x.ak 0 s hs
  rw [QsB] at h
  have e:(∀j (h:j<x.ak.length),Yg m k x.ak[j]=true∧¬(V5 x (0+j)=true∧Vt m x.ak[j]<0))↔nU m (Qt m k) x:=by
   rw [←QuA]
   simp only [Nz]
  rw [e] at h
  exact h) (Qt m k) 0 s hs
 rw [KX (P:=fun x=>nU m (Qt m k) x)] at h1
 obtain⟨h1,h2⟩:=h1
 unfold Ud
 by_cases h0:(XT (mu m k) (Qt m k) 0 s).1=0
 ·rw [iP h0]
  have h3:=h1.1 h0
  refine⟨⟨fun e=>⟨⟨h3.1,e⟩,h3.2⟩,fun e=>e.1.2⟩,fun _=>h2 h0⟩
 ·rw [iN h0]
  exact⟨⟨fun e=>absurd e h0,fun e=>h1.2 ⟨e.1.1,e.2⟩⟩,fun e=>absurd e h0⟩
theorem Gp {f g:α→List β}:∀{l:List α},(∀x∈l,f x=g x)→l.flatMap f=l.flatMap g
 |[],_=>rfl
 |x::l,h=>by
  rw [List.flatMap_cons,List.flatMap_cons,h x Lf,Gp fun y hy=>h y (Lm _ hy)]
theorem Tw (F:α→List β) (d:α) (l:List α):(List.range' 1 l.length).flatMap (fun k=>F (l.getD (k-1) d))=l.flatMap F:=by
 have e:(List.range' 1 l.length).map (fun k=>l.getD (k-1) d)=l:=by
  refine List.ext_getElem (by simp) fun i h1 h2=> ?_
  rw [List.getElem_map,List.getElem_range',Lg,show 1+1*i-1=i from by omega,Li h2];rfl
 conv=>rhs;rw [←e]
 rw [List.flatMap_map]
theorem Qnj (F:Xk→List β) (m:Qz):(List.range' 0 (m.aa.length+1)).flatMap (fun k=>(Qt m k).flatMap F)=(m.an++m.aa.flatMap YT.an).flatMap F:=by
 rw [List.range'_succ,List.flatMap_cons,List.flatMap_append]
 congr 1
 rw [List.flatMap_assoc,←Tw (fun x:YT=>x.an.flatMap F) bj m.aa]
 refine Gp fun k hk=> ?_
 rw [List.mem_range'] at hk
 obtain⟨i,_,rfl⟩:=hk
 rw [show 0+1+1*i=i+1 from by omega,show i+1-1=i from rfl]
 rfl
theorem QvY (m:Qz):(Kw (Ud m) (m.aa.length+1) 0 []).1=0↔((∀x∈m.an,nU m m.an x)∧∀p∈m.aa,(∀x∈p.an,nU m p.an x)∧(p.top∈pH p.an∨p.top∈ff m))∧((m.an++m.aa.flatMap YT.an).flatMap pA).Nodup:=by
 have h:=II (f:=Ud m) (A:=fun k=>(∀x∈Qt m k,nU m (Qt m k) x)∧ju m k=0) (g:=fun k=>(Qt m k).flatMap pA) (fun k s hs=>QsC m k s hs) (m.aa.length+1) 0 [] List.nodup_nil
 rw [Ln,Qnj] at h
 rw [h]
 refine and_congr ?_ Iff.rfl
 have ht:∀k (h:k<m.aa.length),ju m (k+1)=0↔(m.aa[k].top∈pH m.aa[k].an∨m.aa[k].top∈ff m):=fun k h=>by
  have e:m.aa.getD k bj=m.aa[k]:=by rw [Lg,Li h];rfl
  show(if _ then(5:Int) else 0)=0↔_
  rw [e,VV Af,Mk,JP,Classical.not_and_iff_not_or_not,Classical.not_not,Classical.not_not]
  exact⟨fun z=>z.1,fun z=>⟨z,rfl⟩⟩
 constructor
 ·intro h
  refine⟨by have:=(h 0 om).1;exact this,fun p hp=> ?_⟩
  obtain⟨i,hi,rfl⟩:=List.getElem_of_mem hp
  have h1:=h (i+1) om
  rw [Nz] at h1
  have e:Qt m (i+1)=m.aa[i].an:=by
   show(m.aa.getD i bj).an=_
   rw [Lg,Li hi];rfl
  rw [e] at h1
  exact⟨h1.1,(ht i hi).1 h1.2⟩
 ·rintro ⟨a,b⟩ j hj
  rw [Nz]
  cases j with
  |zero=>exact⟨a,rfl⟩
  |succ j=>
   have hi:j<m.aa.length:=by omega
   have e:Qt m (j+1)=m.aa[j].an:=by
    show(m.aa.getD j bj).an=_
    rw [Lg,Li hi];rfl
   obtain⟨c,d⟩:=b _ (Le hi)
   rw [e]
   exact⟨c,(ht j hi).2 d⟩
theorem QsD (m:Qz) (j:Nat) (n:BS) (s:List BS) (hs:s.Nodup):((Wx m j n s).1=0↔n∈ff m∧(s++[n]).Nodup)∧((Wx m j n s).1=0→(Wx m j n s).2=s++[n]):=by
 unfold Wx
 rw [Ml hs]
 by_cases h1:Vt m n<0
 ·rw [iP h1]
  exact⟨⟨fun e=>absurd e (by dsimp only;decide),fun e=>absurd e.1 ((JP m n).1 h1)⟩,fun e=>absurd e (by dsimp only;decide)⟩
 rw [iN h1]
 have h2:n∈ff m:=Classical.byContradiction fun z=>h1 ((JP m n).2 z)
 by_cases h4:s.contains n=true
 ·rw [iP h4]
  exact⟨⟨fun e=>absurd e (by dsimp only;decide),fun e=>absurd e.2 (by rw [h4];simp)⟩,fun e=>absurd e (by dsimp only;decide)⟩
 ·rw [iN h4]
  exact⟨⟨fun _=>⟨h2,by simpa using h4⟩,fun _=>rfl⟩,fun _=>rfl⟩
theorem QpZ (l:List α):(l.flatMap fun x=>[x])=l:=by
 induction l with
 |nil=>rfl
 |cons a l ih=>rw [List.flatMap_cons,ih];rfl
theorem QsE (m:Qz) (i:Nat) (x:YU) (s:List BS) (hs:s.Nodup):((WB m i x s).1=0↔(tR m x∧¬Xj (fun y:YU=>y.name==x.name) m.ae<i)∧(s++x.members).Nodup)∧((WB m i x s).1=0→(WB m i x s).2=s++x.members):=by
 have hm:=W8 (f:=Wx m) (A:=fun _ n=>n∈ff m) (g:=fun n=>[n]) (fun j n s hs=>QsD m j n s hs) x.members 0 s hs
 rw [QpZ,KX (P:=fun n=>n∈ff m)] at hm
 obtain⟨m1,m2⟩:=hm
 have no:∀{c:Int} {p:List BS} {q:Prop},c≠0→(¬q)→(((c,p).1=0↔q)∧((c,p).1=0→(c,p).2=s++x.members)):=fun hc hq=>⟨⟨fun e=>absurd e hc,fun e=>absurd e hq⟩,fun e=>absurd e hc⟩
 unfold WB
 by_cases h1:QD x.name=false
 ·rw [iP h1]
  exact no Af fun z=>by have:=z.1.1.1;rw [h1] at this;cases this
 rw [iN h1]
 by_cases h2:Xj (fun y:YU=>y.name==x.name) m.ae<i
 ·rw [iP h2]
  exact no Af fun z=>z.1.2 h2
 rw [iN h2]
 by_cases h3:x.kind≠0∧x.kind≠1
 ·rw [iP h3]
  exact no Af fun z=>by have:=z.1.1.2.1;omega
 rw [iN h3]
 by_cases h4:(x.members.length:Int)<2∨(x.members.length:Int)>(if x.kind=1 then 4 else 24)∨(x.ar.length:Int)≠(if x.kind=1 then(x.members.length:Int)-1 else 1)
 ·rw [iP h4]
  exact no Af fun z=>by
   obtain⟨a,b,c⟩:=z.1.1.2.2.1
   rcases h4 with h4|h4|h4
   ·omega
   ·omega
   ·exact h4 c
 rw [iN h4]
 by_cases h5:(XT (Wx m) x.members 0 s).1≠0
 ·rw [iP h5]
  exact⟨⟨fun e=>absurd e h5,fun e=>m1.2 ⟨e.1.1.2.2.2.1,e.2⟩⟩,fun e=>absurd e h5⟩
 rw [iN h5]
 have Pr:(XT (Wx m) x.members 0 s).1=0:=by omega
 have h6:=m1.1 Pr
 by_cases h7:x.ar.all RD.bI=false
 ·rw [iP h7]
  exact no Af fun z=>by have:=z.1.1.2.2.2.2;rw [h7] at this;cases this
 rw [iN h7]
 simp only [not_or,Int.not_lt,Classical.not_not] at h4
 refine⟨⟨fun _=>⟨⟨⟨by simpa using h1,by omega,⟨h4.1,by omega,h4.2.2⟩,h6.1,by simpa using h7⟩,h2⟩,h6.2⟩,fun _=>rfl⟩,fun _=>m2 Pr⟩
theorem QvZ (m:Qz):YP m=0↔m.ae.length≤8∧(∀x∈m.ae,tR m x)∧(m.ae.map YU.name).Nodup∧(m.ae.flatMap YU.members).Nodup:=by
 unfold YP
 rw [VV Af]
 have h:=(W8 (f:=WB m) (A:=fun i x=>tR m x∧¬Xj (fun y:YU=>y.name==x.name) m.ae<i) (g:=YU.members) (fun i x s hs=>QsE m i x s hs) m.ae 0 [] List.nodup_nil).1
 rw [h,Ln,←Wh YU.name,←KX (P:=fun x=>tR m x)]
 simp only [Nz]
 constructor
 ·rintro ⟨a,b,c⟩;exact⟨by omega,fun j hj=>(b j hj).1,fun j hj=>(b j hj).2,c⟩
 ·rintro ⟨a,b,c,d⟩;exact⟨by omega,fun j hj=>⟨b j hj,c j hj⟩,d⟩
theorem Qv0 (m:Qz) (x:Ke):XU (gY m x) x.values 0=0↔(∀v∈x.values,v.event∈ff m∧v.p.bI=true)∧(x.values.map Zh.event).Nodup:=by
 rw [Jn,←Wh Zh.event,←KX]
 have h:∀(j:Nat) (v:Zh),gY m x j v=0↔(v.event∈ff m∧v.p.bI=true)∧¬Xj (fun y:Zh=>y.event==v.event) x.values<j:=fun j v=>by
  unfold gY
  rw [VV Af,VV Af,VV Af,JP,Classical.not_not]
  simp only [Bool.not_eq_false]
  exact⟨fun z=>⟨⟨z.1,z.2.2.1⟩,z.2.1⟩,fun z=>⟨z.1.1,z.2,z.1.2,trivial⟩⟩
 constructor
 ·exact fun z=>⟨fun j hj=>((h _ _).1 (z j hj)).1,fun j hj=>by have:=((h _ _).1 (z j hj)).2;rw [Nz] at this;exact this⟩
 ·rintro ⟨a,b⟩ j hj
  exact(h _ _).2 ⟨a j hj,by rw [Nz];exact b j hj⟩
theorem Qv1 (m:Qz):Vd m=0↔m.ai.length≤6∧(∀x∈m.ai,wq m x)∧(m.ai.map Ke.name).Nodup:=by
 unfold Vd
 rw [VV Af,Jn,←Wh Ke.name,←KX]
 have h:∀(j:Nat) (x:Ke),iv m j x=0↔wq m x∧¬Xj (fun y:Ke=>y.name==x.name) m.ai<j:=fun j x=>by
  unfold iv wq
  have e:=xh m 0 x.top
  rw [VV Af,VV Af,VV Af,Qv0]
  simp only [Bool.not_eq_false]
  rw [e]
  exact⟨fun z=>⟨⟨z.1,z.2.2.1,z.2.2.2.1,z.2.2.2.2⟩,z.2.1⟩,fun z=>⟨z.1.1,z.2,z.1.2.1,z.1.2.2.1,z.1.2.2.2⟩⟩
 constructor
 ·rintro ⟨a,z⟩
  exact⟨by omega,fun j hj=>((h _ _).1 (z j hj)).1,fun j hj=>by have:=((h _ _).1 (z j hj)).2;rw [Nz] at this;exact this⟩
 ·rintro ⟨c,a,b⟩
  exact⟨by omega,fun j hj=>(h _ _).2 ⟨a j hj,by rw [Nz];exact b j hj⟩⟩
theorem Qp0 (m:Qz):Vu m=0↔Good m:=by
 unfold Vu Jw Jx
 rw [Vf,Vf,Vf,Vf,Vf,Vf,Vf,VV (c:=m.events.length>24) (k:=4) Af,Vf,VV (c:=m.af.length>16) (k:=4) Af,VV (c:=m.aa.length>8∨pI m>64) (k:=4) Af,QvU,QvV,QvW,QvX,QvY,QvZ,Qv1]
 have et:=xh m 0 m.top
 constructor
 ·rintro ⟨a1,⟨a2,⟨a3,a4⟩,a5,a6,a7⟩,⟨a8,a9,a10⟩,⟨N8,a12⟩,⟨⟨a13,N9⟩,a15⟩,Pa,⟨a17,a18,a19,a20⟩,a21,a22,a23⟩
  have t1:QD m.name=true:=by
   by_cases z:QD m.name=true
   ·exact z
   ·rw [iN z] at a1;cases a1
  have t2:Yg m 0 m.top=true:=by
   by_cases z:Yg m 0 m.top=true
   ·exact z
   ·rw [iN z] at Pa;cases Pa
  refine⟨t1,by omega,a3,a4,by omega,a6,a7,by omega,by omega,fun x hx=>⟨a9 x hx,⟨(a12 x hx).1,fun g hg=> ?_⟩,(N9 x hx).2⟩,a10,⟨N8.1,fun g hg=> ?_⟩,a15,et.1 t2,a17,a18,a19,a20,a21,a22,a23⟩
  ·obtain⟨b1,b2,b3,b4⟩:=(a12 x hx).2 g hg
   exact⟨b1,b2,b3,b4,(N9 x hx).1 g hg⟩
  ·obtain⟨b1,b2,b3,b4⟩:=N8.2 g hg
   exact⟨b1,b2,b3,b4,a13 g hg⟩
 ·intro h
  have g1:∀{L:List Xk},sA m L→sC m L:=fun z=>⟨z.1,fun x hx=>⟨(z.2 x hx).1,(z.2 x hx).2.1,(z.2 x hx).2.2.1,(z.2 x hx).2.2.2.1⟩⟩
  have g2:∀{L:List Xk},sA m L→∀x∈L,nU m L x:=fun z x hx=>(z.2 x hx).2.2.2.2
  have:=h.uM
  have:=h.cq
  have:=h.Ak
  have:=h.uU
  refine⟨iP h.nm,⟨by omega,⟨h.ev,h.Pe⟩,by omega,h.hs,h.jL⟩,⟨by omega,fun x hx=>(h.pg x hx).1,h.RF⟩,⟨g1 h.gt,fun x hx=>g1 (h.pg x hx).2.1⟩,⟨⟨g2 h.gt,fun x hx=>⟨g2 (h.pg x hx).2.1,(h.pg x hx).2.2⟩⟩,h.sp⟩,iP (et.2 h.tp),⟨h.y9,h.gr,h.Pq,h.grm⟩,h.Am,h.ph,h.phn⟩
end
section
variable {α β : Type}
abbrev Vy:BS→BS→Bool:=Go.Op.bytesLess
theorem Cy:∀a:BS,Vy a a=false
 |[]=>rfl
 |x::a=>by
  show(decide (x<x)||(x==x&&Vy a a))=false
  rw [Cy a];simp
theorem Cz:∀{a b:BS},Vy a b=false→Vy b a=false→a=b
 |[],[],_,_=>rfl
 |[],_::_,h,_=>by cases h
 |_::_,[],_,h=>by cases h
 |x::a,y::b,h1,h2=>by
  replace h1:(decide (x<y)||(x==y&&Vy a b))=false:=h1
  replace h2:(decide (y<x)||(y==x&&Vy b a))=false:=h2
  simp only [Bool.or_eq_false_iff,decide_eq_false_iff_not,Bool.and_eq_false_iff,beq_eq_false_iff_ne] at h1 h2
  have vQ:x=y:=by
   apply UInt8.toNat_inj.1
   have a1:¬x.toNat<y.toNat:=h1.1
   have a2:¬y.toNat<x.toNat:=h2.1
   omega
  subst vQ
  rw [Cz (h1.2.resolve_left fun z=>z rfl) (h2.2.resolve_left fun z=>z rfl)]
theorem Ot:∀{a b c:BS},Vy a b=true→Vy b c=true→Vy a c=true
 |_,_,[],_,h=>by cases ‹BS›<;>cases h
 |[],_,_::_,_,_=>rfl
 |_::_,[],_::_,h,_=>by cases h
 |x::a,y::b,z::c,h1,h2=>by
  replace h1:(decide (x<y)||(x==y&&Vy a b))=true:=h1
  replace h2:(decide (y<z)||(y==z&&Vy b c))=true:=h2
  show(decide (x<z)||(x==z&&Vy a c))=true
  simp only [Bool.or_eq_true,Dq,Ba,beq_iff_eq] at h1 h2⊢
  rcases h1 with h1|⟨rfl,h1⟩<;>rcases h2 with h2|⟨rfl,h2⟩
  ·left
   have a1:x.toNat<y.toNat:=h1
   have a2:y.toNat<z.toNat:=h2
   show x.toNat<z.toNat
   omega
  ·exact .inl h1
  ·exact .inl h2
  ·exact .inr ⟨rfl,Ot h1 h2⟩
theorem IJ {a b:BS} (h:Vy a b=true):Vy b a=false:=by
 rw [Bool.eq_false_iff]
 intro e
 have:=Ot h e
 rw [Cy] at this
 cases this
theorem AS {a b c:BS} (h1:Vy b a=false) (h2:Vy c b=false):Vy c a=false:=by
 rw [Bool.eq_false_iff]
 intro e
 by_cases h:Vy b c=true
 ·have:=Ot h e
  rw [h1] at this;cases this
 ·have e2:=Cz (by simpa using h) h2
  subst e2
  rw [h1] at e;cases e
def KY (f:α→BS) (x:α) (l:List α):List α:=(l.reverse.dropWhile fun y=>Vy (f x) (f y)).reverse++x::(l.reverse.takeWhile fun y=>Vy (f x) (f y)).reverse
def Ql (f:α→BS) (l:List α):List α:=l.foldl (fun a x=>KY f x a) []
def j4 (f:α→BS) (l:List α):Prop:=l.Pairwise fun a b=>Vy (f b) (f a)=false
theorem G0 (f:α→BS) (x:α) (l:List α):(KY f x l).Perm (x::l):=by
 unfold KY
 refine List.perm_middle.trans (.cons _ ?_)
 have h:=List.takeWhile_append_dropWhile (p:=fun y=>Vy (f x) (f y)) (l:=l.reverse)
 have h2:(l.reverse.dropWhile fun y=>Vy (f x) (f y)).reverse++(l.reverse.takeWhile fun y=>Vy (f x) (f y)).reverse=l:=by
  rw [←List.reverse_append,h,List.reverse_reverse]
 rw [h2]
theorem Gq {p:α→Bool}:∀{l:List α} {a:α} {r:List α},l.dropWhile p=a::r→p a=false
 |[],_,_,h=>by cases h
 |x::l,a,r,h=>by
  rw [List.dropWhile_cons] at h
  split at h
  ·exact Gq h
  ·rename_i e
   injection h with h1 h2
   subst h1
   simpa using e
theorem Qp1 {f:α→BS} (x:α) {l:List α} (h:j4 f l):j4 f (KY f x l):=by
 have h2:(l.reverse.dropWhile fun y=>Vy (f x) (f y)).reverse++(l.reverse.takeWhile fun y=>Vy (f x) (f y)).reverse=l:=by
  rw [←List.reverse_append,List.takeWhile_append_dropWhile,List.reverse_reverse]
 have ht:∀y∈l.reverse.takeWhile fun y=>Vy (f x) (f y),Vy (f x) (f y)=true:=fun y hy=>by
  have:=List.all_takeWhile (p:=fun y=>Vy (f x) (f y)) (l:=l.reverse)
  exact List.all_eq_true.1 this y hy
 have hd:∀a r,(l.reverse.dropWhile fun y=>Vy (f x) (f y))=a::r→Vy (f x) (f a)=false:=fun a r e=>Gq (p:=fun y=>Vy (f x) (f y)) e
 unfold KY j4
 unfold j4 at h
 rw [←h2,List.pairwise_append] at h
 generalize (l.reverse.dropWhile fun y=>Vy (f x) (f y))=D at*
 generalize (l.reverse.takeWhile fun y=>Vy (f x) (f y))=T at*
 obtain⟨h3,h4,h5⟩:=h
 have hD:∀a∈D.reverse,Vy (f x) (f a)=false:=fun a ha=>by
  cases D with
  |nil=>cases ha
  |cons b r=>
   have hb:=hd b r rfl
   rw [List.reverse_cons,List.pairwise_append] at h3
   rw [List.reverse_cons,List.mem_append] at ha
   rcases ha with ha|ha
   ·exact AS (h3.2.2 a ha b (by simp)) hb
   ·rw [Lv] at ha;rw [ha];exact hb
 rw [List.pairwise_append]
 refine⟨h3,List.pairwise_cons.2 ⟨fun y hy=>IJ (ht y (List.mem_reverse.1 hy)),h4⟩,fun a ha b hb=> ?_⟩
 rcases Lb.1 hb with rfl|hb
 ·exact hD a ha
 ·exact h5 a ha b hb
theorem Ou (f:α→BS):∀(l a:List α),(l.foldl (fun a x=>KY f x a) a).Perm (a++l)
 |[],a=>by rw [Lp];exact .refl _
 |x::l,a=>by
  rw [List.foldl_cons]
  refine(Ou f l _).trans ?_
  refine((G0 f x a).append_right l).trans ?_
  exact(List.perm_middle (a:=x) (l₁:=a) (l₂:=l)).symm
theorem QW (f:α→BS) (l:List α):(Ql f l).Perm l:=by
 have:=Ou f l []
 rwa [Ln] at this
theorem IK (f:α→BS):∀(l a:List α),j4 f a→j4 f (l.foldl (fun a x=>KY f x a) a)
 |[],_,h=>h
 |x::l,a,h=>IK f l _ (Qp1 x h)
theorem G1 (f:α→BS) (l:List α):j4 f (Ql f l):=IK f l [] .nil
theorem BX {f:α→BS}:∀{l l':List α},l.Perm l'→j4 f l→j4 f l'→(∀x∈l,∀y∈l,f x=f y→x=y)→l=l'
 |[],l',hp,_,_,_=>(List.nil_perm.1 hp).symm
 |x::l,[],hp,_,_,_=>absurd hp.length_eq (by simp)
 |x::l,y::l',hp,h1,h2,hi=>by
  have vQ:x=y:=by
   have hx:x∈y::l':=hp.mem_iff.1 Lf
   have hy:y∈x::l:=hp.mem_iff.2 Lf
   rcases Lb.1 hx with e|hx
   ·exact e
   rcases Lb.1 hy with e|hy
   ·exact e.symm
   exact hi x Lf y (Lm _ hy) (Cz ((List.pairwise_cons.1 h2).1 x hx) ((List.pairwise_cons.1 h1).1 y hy))
  subst vQ
  rw [BX ((List.perm_cons x).1 hp) (List.pairwise_cons.1 h1).2 (List.pairwise_cons.1 h2).2 fun a ha b hb=>hi a (Lm _ ha) b (Lm _ hb)]
theorem QuB {f:α→BS} {l:List α} (h:(l.map f).Nodup):∀x∈l,∀y∈l,f x=f y→x=y:=fun x hx y hy e=>by
 obtain⟨i,hi,rfl⟩:=List.getElem_of_mem hx
 obtain⟨j,hj,rfl⟩:=List.getElem_of_mem hy
 have:i=j:=by
  exact(List.getElem_inj (xs:=l.map f) (i:=i) (j:=j) (h₀:=by simpa using hi) (h₁:=by simpa using hj) h).1 (by rw [List.getElem_map,List.getElem_map];exact e)
 subst this;rfl
theorem K8 {f:α→BS} {l l':List α} (hp:l'.Perm l) (hs:j4 f l') (h:(l.map f).Nodup):l'=Ql f l:=
 BX (hp.trans (QW f l).symm) hs (G1 f l) (QuB ((hp.map f).nodup_iff.2 h))
theorem QsF {l l':List BS} (hp:l'.Perm l) (hs:j4 id l'):l'=Ql id l:=
 BX (hp.trans (QW id l).symm) hs (G1 id l) fun _ _ _ _ e=>e
abbrev Jo (k:Int):Prop:=k=0∨k=1∨k=2∨k=4
def sR (k:Int) (l:List BS):List BS:=if Jo k then Ql id l else if k=8 then l.take 1++Ql id (l.drop 1) else l
def aV (g:Xk):Xk:={g with ak:=sR g.kind g.ak}
def JQ (l:List Xk):List Xk:=Ql Xk.name (l.map aV)
def bu (x:YT):YT:=⟨x.name,x.top,JQ x.an⟩
def bB (x:YU):YU:=⟨x.name,x.kind,Ql id x.members,x.ar⟩
def bz (x:Ke):Ke:=⟨x.name,x.top,Ql Zh.event x.values⟩
def OO (m:Qz):Qz:=⟨m.name,m.top,Ql X7.name m.events,Ql Vq.name m.af,JQ m.an,Ql YT.name (m.aa.map bu),Ql YU.name (m.ae.map bB),m.ai.map bz⟩
end
theorem Nh:∀(a b:BS),decide (Go.Lib.compareBytes a b<0)=Vy a b
 |[],[]=>rfl
 |[],_::_=>rfl
 |_::_,[]=>rfl
 |x::a,y::b=>by
  show decide ((if x<y then(-1:Int) else if y<x then 1 else Go.Lib.compareBytes a b)<0)=(decide (x<y)||(x==y&&Vy a b))
  by_cases h1:x<y
  ·rw [iP h1,Dt h1];rfl
  ·rw [iN h1,De h1,Bool.false_or]
   by_cases h2:y<x
   ·rw [iP h2]
    have:(x==y)=false:=beq_eq_false_iff_ne.2 fun e=>by subst e;exact h1 h2
    rw [this];rfl
   ·rw [iN h2,Nh a b]
    have:x=y:=by
     apply UInt8.toNat_inj.1
     have a1:¬x.toNat<y.toNat:=h1
     have a2:¬y.toNat<x.toNat:=h2
     omega
    subst this
    simp
theorem Qnk {α β:Type} {f:α→β}:∀{l:List α} {m:List β},(l.map f).Perm m→∃l':List α,l'.Perm l∧l'.map f=m:=by
 intro l m h
 generalize hx:l.map f=x at h
 induction h generalizing l with
 |nil=>exact⟨l,.refl _,hx⟩
 |cons a _ ih=>
  cases l with
  |nil=>cases hx
  |cons b l=>
   injection hx with h1 h2
   obtain⟨l',p,e⟩:=ih h2
   exact⟨b::l',.cons b p,by rw [Ld,h1,e]⟩
 |swap a b r=>
  match l,hx with
  |c::d::l,hx=>
   simp only [Ld,List.cons.injEq] at hx
   obtain⟨h1,h2,h3⟩:=hx
   exact⟨d::c::l,.swap c d l,by rw [Ld,Ld,h1,h2,h3]⟩
 |trans _ _ ih1 qg=>
  obtain⟨l1,p1,e1⟩:=ih1 hx
  obtain⟨l2,p2,e2⟩:=qg e1
  exact⟨l2,p2.trans p1,e2⟩
end Go.PN
namespace Go.Proofs.YtjegkdadeghpjaaGreatDoor
open Go.AI Go.PN Proofs.Tryz
attribute [local irreducible] aw Fa VA Vk Fh YO
theorem IL (xs:List Nat) (hx:∀x∈xs,x<4294967296) (hl:xs.length≤1000000):Fa prog 110 [.c (ws false xs)] (.c (.str (sB (UM (val xs))))):=by
 have PU:=FQ hx
 have ET:=QR xs hx
 have mP:=AL _ (val xs) (Ac _)
 have bN:UM (val xs)=if((bg (VT (val xs)) (VT (val xs)).length).dropWhile (·==48))==[] then [48] else(bg (VT (val xs)) (VT (val xs)).length).dropWhile (·==48):=rfl
 refine fA func110 fun C hC=>?_
 refine xG ?_
 refine xC (Zx xs hx ?_) ?_
 ·omega
 refine xG ?_
 generalize val xs=N at*
 refine Qh (fun x:Option Nat×List (List UInt8)×Nat=>[(0,.c (ws true (Qc x.2.2))),(3,.c (gs x.1 1 x.2.1.length))]) (fun x=>gh x.1 9 (x.2.1.length*1) (qM x.2.1))
  (fun x=>VT N=x.2.1++VT x.2.2∧x.2.2≤N∧(x.1=none→x.2.1.length=0)) (fun x=>x.2.2) (none,[],N) eB zZ ⟨rfl,Ac _,fun _=>rfl⟩ ?_
 rintro ⟨og,G,v⟩ ⟨hG,hv,ax⟩
 dsimp only at hG hv ax⊢
 have hGl:G.length+(VT v).length≤2*xs.length:=by rw [←La,←hG];exact PU
 have js:=QK hv
 refine xG ?_
 refine xF (fun h1=>?_) fun h1=>?_
 ·have cU:v≠0:=by
   intro e
   subst e
   rw [QA] at h1
   simp at h1
  have bP:=Oq cU
  have bZ:(Jk (v%1000000000)).length=9:=Oo _
  refine xG ?_
  have gw:=HT (Qc v) 1000000000 (Qp v) om om om
  rw [Qd] at gw
  refine xC (gw) ?_
  refine xG ?_
  refine xC (Qsw (v%1000000000) ?_) ?_
  ·omega
  refine xG ?_
  refine QT (pre:=[]) rfl rfl rfl rfl rfl rfl rfl eE eE (by rfl) om om eE om (by exact ax) eE (by rfl) (by rfl) qb qc om (by exact QpS rfl _) fun g n_=> ?_
  replace n_:=Qa.ay n_
  first|dsimp only [Qa.ne,gh] at n_|dsimp only [Qa.ne] at n_|skip
  refine Xw n_ ?_
  have e:(G++[Jk (v%1000000000)]).length=G.length+1:=by simp
  refine Qb ⟨(some g,G++[Jk (v%1000000000)],v/1000000000),by dsimp only;omega,?_,?_,by dsimp only;rw [Lo,hG,bP];rfl,by dsimp only;omega,fun e=>by cases e⟩
  ·dsimp only
   rw [e]
   exact(zB n_)
  ·dsimp only
   rw [e]
   exact zZ
 ·have cU:v=0:=by
   apply Classical.byContradiction
   intro e
   have:=of_decide_eq_false h1
   rw [XW e] at this
   simp at this
  subst cU
  rw [K6,Lp] at hG
  have bS:=AM mP
  rw [hG] at PU mP bN bS
  refine Qj (h':=gh og 9 (G.length*1) (qM G)++[]) (by rw [Lp,Ad]) ?_
  refine Z8 (t:=3) (f':=qM G) ax rfl eE (fun g _=>hC g) (fun _ _=>rfl) rfl ?_
  refine ZA ?_
  refine GR (vs:=[.pointer none,.slice none 0 0]) rfl rfl rfl kR fun gB n_B=> ?_
  refine(?_:aw _ _ _ [Wy gB (bA gB 0) (JN none 0)])
  refine ZA ?_
  refine Qh (fun x:Option Nat×Nat=>[(3,.c (.row true 1 G.length (qM G))),(6,.c (.aj gB 0)),(7,.c (.int .i64 ((G.length:Int)-1-(x.2:Int))))]) (fun x=>Wy gB (bA gB x.2) (JN x.1 (bg G x.2).length)::gh x.1 5 (bg G x.2).length (UU (bg G x.2)))
   (fun x=>x.2≤G.length∧(x.1=none→x.2=0)∧(x.2=0→x.1=none)) (fun x=>G.length-x.2) (none,0) (by refine xS ?_;simp) zZ ⟨Lz _,fun _=>rfl,fun _=>rfl⟩ ?_
  rintro ⟨ej,i⟩ ⟨hi,fW,km⟩
  dsimp only at hi fW km⊢
  have PH:=bS i hi
  refine xG ?_
  refine xF (fun h2=>?_) fun h2=>?_
  ·have jB:i<G.length:=dT h2
   obtain⟨q,hq⟩:∃q:Nat,q=G.length-1-i:=⟨_,rfl⟩
   have rQ:(G.length:Int)-1-(i:Int)=(q:Int):=by omega
   have D0:bg G (i+1)=bg G i++G.getD q []:=by rw [bg,hq]
   have hl9:(G.getD q []).length=9:=by
    rw [Lg,Li om]
    exact mP _ (Le _)
   have hci2:=bS (i+1) om
   rw [rQ]
   refine xG ?_
   refine Qq (hc:=Wy gB (bA gB i) (JN ej (bg G i).length)::gh ej 5 (bg G i).length (UU (bg G i))) (hr:=[]) (Qst gB _ (QvQ gB i) ej (bg G i) (G.getD q []) (fun e=>by rw [fW e];rfl) om) rfl rfl rfl (by rw [Lp]) eL ?_
   rintro _ _ ⟨dA,h3,rfl,rfl⟩ _
   rw [←D0,Lp] at*
   refine ZA ?_
   rw [show(q:Int)-1=(G.length:Int)-1-((i+1:Nat):Int) from by omega]
   exact Qb ⟨(dA,i+1),by dsimp only;omega,eB,zZ,by dsimp only;omega,fun e=>by have:=h3 e;omega,fun e=>by dsimp only at e;omega⟩
  ·have jB:i=G.length:=dF h2
   subst jB
   refine xG ?_
   refine Qq (hc:=Wy gB (bA gB G.length) (JN ej (bg G G.length).length)::gh ej 5 (bg G G.length).length (UU (bg G G.length))) (hr:=[]) (Qsu gB _ ej (bg G G.length) (fun e=>by rw [fW e];rfl) (fun e=>km (by rw [e] at PH;simp only [Lu] at PH;omega)) om) rfl rfl rfl (by rw [Lp]) eL ?_
   rintro _ _ ⟨rfl,rfl⟩ _
   generalize bg G G.length=B at*
   refine ZA ?_
   refine xC (S7 B ?_) ?_
   ·omega
   refine xG ?_
   refine xF (fun h5=>?_) fun h5=>?_
   ·refine xG ?_
    rw [bN,iP h5]
    refine xT hC ?_
    exact .one (.c (.str _))
   ·refine xG ?_
    rw [bN,iN (by rw [h5];simp)]
    refine xT hC ?_
    exact .one (.c (.str _))
theorem Qnl (r:RD) (hw:r.wf 100000):Fa prog 55 [.agg (YS r)] (.c (.str (sB (Y5 r)))):=by
 obtain⟨jW,gV⟩:=RD.cL hw om
 have t1:=Iy (Qc r.pn) (Qp _) om
 have t2:=Iy (Qc r.pd) (Qp _) om
 rw [Qd,←wM] at t1 t2
 have b1:=Wc (n:=r.pn) (L:=100002) om
 have b2:=Wc (n:=r.pd) (L:=100002) om
 have hr:Y5 r=(if r.ps then [45]++UM r.pn else UM r.pn)++(if r.pd=1 then [] else [47]++UM r.pd):=rfl
 generalize UM r.pn=T1 at*
 generalize UM r.pd=T2 at*
 have cE:=NO r.pd 1 om (by rw [Kc];simp)
 rw [Kc] at cE
 have h1:= @Qxu r.pd
 have f1:=Uw r (XZ hw om)
 refine fA func55 fun C hC=>?_
 refine zA o0 ?_
 refine xB fun g1 ah=>?_
 repeat' first|refine zV ah ?_|refine yQ ah f1 ?_|refine yQ ah t1 ?_|refine yQ ah t2 ?_|refine zH ah ?_ ?_<;>intro hb|fail
 all_goals
  first|rw [iP hb] at hr|rw [iN (by rw [hb];simp)] at hr
  refine Qw (xs:=[.const (.int .u32 1)]) (cells:=[.int .u32 1]) rfl rfl rfl Xp (by rw [l9,Xf];rfl) rfl om om (by intro x hx;simp only [Lb,Lj,or_false] at hx;subst hx;exact⟨rfl,rfl,rfl⟩) rfl fun g hg=> ?_
  replace hg:=Qa.ay hg
  dsimp only [Qa.ne] at hg
  have J1:=oj ah hg
  refine yS J1 ?_
  refine Qr cE rfl rfl rfl (by refine yS J1 ?_;exact⟨.c gN,.c (Yi (zE J1) om rfl (fun j hj=>by match j,hj with|0,_=>rfl))⟩) ?_
  refine yS J1 ?_
  all_goals repeat' first|refine zV J1 ?_|refine yQ J1 t2 ?_|refine zH J1 ?_ ?_<;>intro hb|fail
  all_goals
   first|rw [iP (h1.1 hb),Lp] at hr|rw [iN (fun e=>hb (h1.2 e))] at hr
   try simp only [Lq,Ln,Lo] at hr
   rw [hr]
   refine yT hC J1 ?_
   exact .one (.c (.str _))
abbrev tG:List BS:=[yZ,zQ,kV,oQ,oR,eN,kU,jd,w6]
theorem Qp3 (k:Int) (h1: -9223372036854775808≤k) (h2:k<9223372036854775808):Fa prog 54 [.c (.int .i64 k)] (.c (.str (sB (XB k)))):=by
 by_cases h:k<0∨k≥9
 ·have e:XB k=C0:=iP h
  rw [e]
  refine fA func54 fun C hC=>?_
  refine xG ?_
  refine Qw (xs:=tG.map fun w=>Operand.const (.string (sB w))) (cells:=tG.map fun w=>.str (sB w)) rfl rfl rfl eE (by refine xS ?_;rfl) rfl om om (by intro z hz;simp only [tG,Ld,List.map_nil,Lb,Lj,or_false] at hz;rcases hz with rfl|rfl|rfl|rfl|rfl|rfl|rfl|rfl|rfl<;>exact⟨rfl,rfl,rfl⟩) rfl fun g3 av=> ?_
  refine xS ?_
  repeat' first|refine zV o0 ?_|refine zH o0 ?_ ?_<;>intro hb|fail
  ·refine xT hC ?_
   exact .one (.c (.str _))
  ·refine xT hC ?_
   exact .one (.c (.str _))
  ·exfalso;omega
 ·have e:k=0∨k=1∨k=2∨k=3∨k=4∨k=5∨k=6∨k=7∨k=8:=by omega
  rcases e with rfl|rfl|rfl|rfl|rfl|rfl|rfl|rfl|rfl
  all_goals
   refine fA func54 fun C hC=>?_
   refine xG ?_
   refine Qw (xs:=tG.map fun w=>Operand.const (.string (sB w))) (cells:=tG.map fun w=>.str (sB w)) rfl rfl rfl eE (by refine xS ?_;rfl) rfl om om (by intro z hz;simp only [tG,Ld,List.map_nil,Lb,Lj,or_false] at hz;rcases hz with rfl|rfl|rfl|rfl|rfl|rfl|rfl|rfl|rfl<;>exact⟨rfl,rfl,rfl⟩) rfl fun g3 av=> ?_
   refine xS ?_
   refine zA o0 ?_
   refine xT hC ?_
   exact .one (.c (.str _))
theorem Qp4 (g:Xk) (jn: -9223372036854775808≤g.kind) (pU:g.kind<9223372036854775808) (P3:g.kind=2→ -9223372036854775808≤g.k∧g.k≤9223372036854775807) (hw:g.aH.wf 100000) (hl:(ZZ g).length≤1099511627776):VA prog 26 [.agg (Zi g)] (.c (.str (sB (ZZ g)))):=by
 have sn:=Qxt
 have f1:=Qp3 g.kind jn pU
 have f3:=Qnl g.aH hw
 have hB:ZZ g=Wt g++(kF g.ak++[59]):=IA g
 rw [hB] at hl⊢
 have ri:Wt g=Qy++32::(g.name++32::(XB g.kind++(if g.kind=2 then 32::Zz g.k else if g.kind=7 then 32::Y5 g.aH else []))):=rfl
 have eH:g.ak.length≤(kF g.ak).length:=QpV g.ak
 rw [La,La] at hl
 have bY:=congrArg List.length ri
 simp only [La,Lc,Lu] at bY
 have b2:g.kind=2→(Zz g.k).length+1≤(Wt g).length:=fun h=>by rw [iP h] at bY;rw [bY];simp only [Lc];omega
 have b7:g.kind=7→(Y5 g.aH).length+1≤(Wt g).length:=fun h=>by rw [iN om,iP h] at bY;rw [bY];simp only [Lc];omega
 refine VB func26 rfl rfl (by simp [ntmps26]) fun C hC hT=> ?_
 simp only [ZD,Nat.reduceAdd]
 refine zA sn ?_
 refine yB sn fun g1 ah=>?_
 refine zA (oj sn ah) ?_
 refine Xl 9 Qg kR ?_
 all_goals try(have Z:=(oj sn ah);(repeat' first|refine zV Z ?_|refine yQ Z f1 ?_|refine yQ Z f3 ?_|refine zH Z ?_ ?_<;>intro hb|fail);all_goals clear Z)
 any_goals (refine tO sn ((Nx g.k (P3 hb).1 (P3 hb).2).lk hT) ?_)
 all_goals try(have Z:=(oj sn ah);(repeat' first|refine zV Z ?_|refine zH Z ?_ ?_<;>intro hb|fail);all_goals clear Z)
 all_goals
  simp only [Lq,Ln] at ri
  first
   |rw [iN (by assumption),iP hb] at ri
   |rw [iN (by assumption),iN hb,Lp] at ri
   |rw [iP hb] at ri
  rw [←ri]
  clear hB ri bY b2 b7 hb
  obtain⟨A,a0,aS,aE,aL⟩:=QxA (Wt g) (fun y:BS=>32::y) g.ak []
  have e5:Wt g++(kF g.ak++[59])=A g.ak.length++[59]:=by rw [aE,Lo];rfl
  have e6:(Wt g++List.flatMap (fun y:BS=>32::y) g.ak).length=(Wt g).length+(kF g.ak).length:=La
  rw [e6] at aL
  rw [e5]
  clear aE e5 e6
  generalize Wt g=B at*
  refine Qh (fun i:Nat=>[(1,.c (.aj g1 0)),(3,.c (.str (sB (A i)))),(33,.c (YH true g.ak)),(34,.c (.int .i64 g.ak.length)),(35,.c (.int .i64 i))]) (fun _=>[(g1,.cells 71 7 (ao (Zi g)))]) (fun i=>i≤g.ak.length) (fun i=>g.ak.length-i) 0 (zB (oj sn (oj ah a0))) zZ (Lz _) ?_
  rintro i hi
  by_cases hj:i<g.ak.length
  ·have d1:decide (i<g.ak.length)=true:=Dt hj
   have b1:=aL i
   have b3:=aL (i+1)
   have hS:=aS i hj
   rw [hS,La,Lc] at b3
   clear aL aS
   generalize hv:g.ak.getD i []=v at*
   generalize A i=S at*
   refine zA (oj sn (oj ah (oj a0 (oj d1 (oj hv hS))))) ?_
   exact Qb ⟨i+1,by omega,(zB (oj sn (oj ah (oj a0 (oj d1 (oj hv hS)))))),zZ,by omega⟩
  ·obtain rfl:i=g.ak.length:=by omega
   have d1:decide (g.ak.length<g.ak.length)=false:=De om
   have b1:=aL g.ak.length
   clear aL aS
   refine zA (oj sn (oj ah (oj a0 d1))) ?_
   refine yT hC (oj sn (oj ah (oj a0 d1))) ?_
   exact .one (.c (.str _))
theorem ZM (m:Qz) (n:BS) (hl:m.events.length≤1099511627776):Fa prog 83 [.agg (Xo true m),.c (.str (sB n))] (.c (.int .i64 (Vt m n))):=by
 refine fA func83 fun C hC=>?_
 refine zA o0 ?_
 refine xB fun g2 aq=>?_
 repeat' first|refine zV aq ?_|refine zH aq ?_ ?_<;>intro hb|fail
 refine Qh (fun i:Nat=>[(1,.c (.str (sB n))),(2,.c (.aj g2 0)),(8,.c (gS true m.events)),(9,.c (.int .i64 m.events.length)),(10,.c (.int .i64 i))]) (fun _=>[(g2,.cells 45 8 (ao (Xo true m)))]) (fun i=>i≤m.events.length∧∀j,j<i→((fun x:X7=>x.name==n) (m.events.getD j bn))=false) (fun i=>m.events.length-i) 0 (zB aq) zZ ⟨Lz _,fun j hj=>absurd hj om⟩ ?_
 rintro i ⟨hi,hn⟩
 repeat' first|refine zV aq ?_|refine zH aq ?_ ?_<;>intro hb|fail
 ·have hi':=hb
  refine yA aq fun g6 aJ=>?_
  all_goals try(have Z:=(oj aq aJ);(repeat' first|refine zV Z ?_|refine zH Z ?_ ?_<;>intro hb|fail);all_goals clear Z)
  ·rw [show Vt m n=(i:Int) from YV bn hi' (by simpa using hb) hn]
   refine yT hC (oj aq aJ) ?_
   exact .one (.c (.int _ _))
  ·refine Qb ⟨i+1,?_⟩
   have cb:∀j,j<i+1→((fun x:X7=>x.name==n) (m.events.getD j bn))=false:=fun j hj=>by
    by_cases e:j=i
    ·subst e;simpa using hb
    ·exact hn j om
   and_intros
   all_goals first|rfl|exact Lr _|exact Ls _ _|exact True.intro|exact cb|omega
 ·rw [show Vt m n= -1 from Zy bn fun j hj=>hn j om]
  refine yT hC aq ?_
  exact .one (.c (.int _ _))
theorem Av (m:Qz) (n:BS) (hl:m.af.length≤1099511627776):Fa prog 86 [.agg (Xo true m),.c (.str (sB n))] (.c (.int .i64 (ey m n))):=by
 refine fA func86 fun C hC=>?_
 repeat' first|refine zV o0 ?_|refine zH o0 ?_ ?_<;>intro hb|fail
 refine xB fun g2 aq=>?_
 repeat' first|refine zV aq ?_|refine zH aq ?_ ?_<;>intro hb|fail
 refine Qh (fun i:Nat=>[(1,.c (.str (sB n))),(2,.c (.aj g2 0)),(8,.c (jb true m.af)),(9,.c (.int .i64 m.af.length)),(10,.c (.int .i64 i))]) (fun _=>[(g2,.cells 45 8 (ao (Xo true m)))]) (fun i=>i≤m.af.length∧∀j,j<i→((fun x:Vq=>x.name==n) (m.af.getD j bw))=false) (fun i=>m.af.length-i) 0 (zB aq) zZ ⟨Lz _,fun j hj=>absurd hj om⟩ ?_
 rintro i ⟨hi,hn⟩
 repeat' first|refine zV aq ?_|refine zH aq ?_ ?_<;>intro hb|fail
 ·have hi':=hb
  refine yA aq fun g6 aJ=>?_
  all_goals try(have Z:=(oj aq aJ);(repeat' first|refine zV Z ?_|refine zH Z ?_ ?_<;>intro hb|fail);all_goals clear Z)
  ·rw [show ey m n=(i:Int) from YV bw hi' (by simpa using hb) hn]
   refine yT hC (oj aq aJ) ?_
   exact .one (.c (.int _ _))
  ·refine Qb ⟨i+1,?_⟩
   have cb:∀j,j<i+1→((fun x:Vq=>x.name==n) (m.af.getD j bw))=false:=fun j hj=>by
    by_cases e:j=i
    ·subst e;simpa using hb
    ·exact hn j om
   and_intros
   all_goals first|rfl|exact Lr _|exact Ls _ _|exact True.intro|exact cb|omega
 ·rw [show ey m n= -1 from Zy bw fun j hj=>hn j om]
  refine yT hC aq ?_
  exact .one (.c (.int _ _))
theorem AT (m:Qz) (n:BS) (hl:m.aa.length≤1099511627776):Fa prog 87 [.agg (Xo true m),.c (.str (sB n))] (.c (.int .i64 (O5 m n))):=by
 refine fA func87 fun C hC=>?_
 repeat' first|refine zV o0 ?_|refine zH o0 ?_ ?_<;>intro hb|fail
 refine xB fun g2 aq=>?_
 repeat' first|refine zV aq ?_|refine zH aq ?_ ?_<;>intro hb|fail
 refine Qh (fun i:Nat=>[(1,.c (.str (sB n))),(2,.c (.aj g2 0)),(8,.c (ir true m.aa)),(9,.c (.int .i64 m.aa.length)),(10,.c (.int .i64 i))]) (fun _=>[(g2,.cells 45 8 (ao (Xo true m)))]) (fun i=>i≤m.aa.length∧∀j,j<i→((fun x:YT=>x.name==n) (m.aa.getD j bj))=false) (fun i=>m.aa.length-i) 0 (zB aq) zZ ⟨Lz _,fun j hj=>absurd hj om⟩ ?_
 rintro i ⟨hi,hn⟩
 repeat' first|refine zV aq ?_|refine zH aq ?_ ?_<;>intro hb|fail
 ·have hi':=hb
  refine yA aq fun g6 aJ=>?_
  all_goals try(have Z:=(oj aq aJ);(repeat' first|refine zV Z ?_|refine zH Z ?_ ?_<;>intro hb|fail);all_goals clear Z)
  ·rw [show O5 m n=(i:Int) from YV bj hi' (by simpa using hb) hn]
   refine yT hC (oj aq aJ) ?_
   exact .one (.c (.int _ _))
  ·refine Qb ⟨i+1,?_⟩
   have cb:∀j,j<i+1→((fun x:YT=>x.name==n) (m.aa.getD j bj))=false:=fun j hj=>by
    by_cases e:j=i
    ·subst e;simpa using hb
    ·exact hn j om
   and_intros
   all_goals first|rfl|exact Lr _|exact Ls _ _|exact True.intro|exact cb|omega
 ·rw [show O5 m n= -1 from Zy bj fun j hj=>hn j om]
  refine yT hC aq ?_
  exact .one (.c (.int _ _))
theorem AU (l:List Xk) (n:BS) (hl:l.length≤1099511627776):Fa prog 89 [.c (ca true l),.c (.str (sB n))] (.c (.int .i64 (fg l n))):=by
 refine fA func89 fun C hC=>?_
 repeat' first|refine zV o0 ?_|refine zH o0 ?_ ?_<;>intro hb|fail
 refine Qh (fun i:Nat=>[(1,.c (.str (sB n))),(7,.c (ca true l)),(8,.c (.int .i64 l.length)),(9,.c (.int .i64 i))]) (fun _=>[]) (fun i=>i≤l.length∧∀j,j<i→((fun x:Xk=>x.name==n) (l.getD j aU))=false) (fun i=>l.length-i) 0 eB zZ ⟨Lz _,fun j hj=>absurd hj om⟩ ?_
 rintro i ⟨hi,hn⟩
 repeat' first|refine zV o0 ?_|refine zH o0 ?_ ?_<;>intro hb|fail
 ·have hi':=hb
  refine xA fun g6 aJ=>?_
  repeat' first|refine zV aJ ?_|refine zH aJ ?_ ?_<;>intro hb|fail
  ·rw [show fg l n=(i:Int) from YV aU hi' (by simpa using hb) hn]
   refine yT hC aJ ?_
   exact .one (.c (.int _ _))
  ·refine Qb ⟨i+1,?_⟩
   have cb:∀j,j<i+1→((fun x:Xk=>x.name==n) (l.getD j aU))=false:=fun j hj=>by
    by_cases e:j=i
    ·subst e;simpa using hb
    ·exact hn j om
   and_intros
   all_goals first|rfl|exact Lr _|exact Ls _ _|exact True.intro|exact cb|omega
 ·rw [show fg l n= -1 from Zy aU fun j hj=>hn j om]
  refine xT hC ?_
  exact .one (.c (.int _ _))
theorem Kh (m:Qz) (k:Nat) (hk:k≤m.aa.length) (hl:m.aa.length≤1099511627776):Fa prog 36 [.agg (Xo true m),.c (.int .i64 ((k:Int)-1))] (.c (ca true (Qt m k))):=by
 refine fA func36 fun C hC=>?_
 repeat' first|refine zV o0 ?_|refine zH o0 ?_ ?_<;>intro hb|fail
 refine xB fun g1 ah=>?_
 repeat' first|refine zV ah ?_|refine zH ah ?_ ?_<;>intro hb|fail
 ·have h0:k=0:=by omega
  subst h0
  refine yT hC ah ?_
  exact .one (.c JM)
 ·obtain⟨j,rfl⟩:∃j,k=j+1:=⟨k-1,by omega⟩
  refine yT hC ah ?_
  exact .one (.c JM)
theorem BY (m:Qz) (k:Nat) (n:BS) (hk:k≤m.aa.length) (pM:m.events.length≤1099511627776) (tn:m.af.length≤1099511627776) (dJ:m.aa.length≤1099511627776) (bY:(Qt m k).length≤1099511627776) (hn:n.length≤1099511627776) (eU:¬(0<n.length∧XE n 0=64)):Fa prog 146 [.agg (Xo true m),.c (.int .i64 ((k:Int)-1)),.c (.str (sB n))] (.aF [.c (.int .i64 (mh m k n).1),.c (.int .i64 (mh m k n).2.1),.c (.int .i64 (mh m k n).2.2)]):=by
 have f1:=ZM m n pM
 have f2:=Av m n tn
 have f3:=Kh m k hk dJ
 have f4:=AU (Qt m k) n bY
 refine fA func146 fun C hC=>?_
 refine zA o0 ?_
 refine xB fun g1 ah=>?_
 repeat' first|refine zV ah ?_|refine yQ ah f1 ?_|refine yQ ah f2 ?_|refine yQ ah f3 ?_|refine yQ ah f4 ?_|refine zH ah ?_ ?_<;>intro hb|fail
 all_goals clear f1 f2 f3 f4
 ·exfalso;exact eU (by simp_all)
 all_goals
  refine yT hC ah ?_
  refine .aF ⟨.c (Qn ?_),.c (Qn ?_),.c (Qn ?_),trivial⟩
  all_goals
   unfold mh
   repeat' split
   all_goals exact Ah
theorem Qp5 (m:Qz) (k:Nat) (n:BS) (hk:k≤m.aa.length) (pM:m.events.length≤1099511627776) (tn:m.af.length≤1099511627776) (dJ:m.aa.length≤1099511627776) (bY:∀k,(Qt m k).length≤1099511627776) (hn:n.length≤1099511627776)
  (htp:∀q:Nat,q<m.aa.length→(m.aa.getD q bj).top.length≤1099511627776∧¬(0<(m.aa.getD q bj).top.length∧XE (m.aa.getD q bj).top 0=64)):Fa prog 146 [.agg (Xo true m),.c (.int .i64 ((k:Int)-1)),.c (.str (sB n))] (.aF [.c (.int .i64 (qN m k n).1),.c (.int .i64 (qN m k n).2.1),.c (.int .i64 (qN m k n).2.2)]):=by
 by_cases eU:0<n.length∧XE n 0=64
 ·have f1:=AT m (Vn n 1 n.length) dJ
  rw [VG] at f1
  have e1:qN m k n=if O5 m (n.drop 1)<0 then(-1,0,0) else mh m (O5 m (n.drop 1)+1).toNat (m.aa.getD (O5 m (n.drop 1)).toNat bj).top:=iP eU
  rw [e1]
  have hg:=xb (fun x:YT=>x.name==n.drop 1) m.aa
  have aD:=Cu (fun x:YT=>x.name==n.drop 1) m.aa
  have hd:∀(c:Prop) [Decidable c],c∨¬c:=fun c _=>Decidable.em c
  obtain⟨h0,h1⟩:=eU
  refine fA func146 fun C hC=>?_
  refine zA o0 ?_
  refine xB fun g1 ah=>?_
  repeat' first|refine zV ah ?_|refine zH ah ?_ ?_<;>intro hb|fail
  ·refine Xl 4 Qg kR ?_
   refine zA ah ?_
   rw [VG]
   repeat' first|refine zV ah ?_|refine yQ ah f1 ?_|refine zH ah ?_ ?_<;>intro hb|fail
   ·refine yT hC ah ?_
    rw [iP hb]
    exact .aF ⟨.c (.int _ _),.c (.int _ _),.c (.int _ _),trivial⟩
   have rO:¬O5 m (n.drop 1)<0:=hb
   obtain⟨q,hq⟩:∃q:Nat,O5 m (n.drop 1)=q:=⟨(O5 m (n.drop 1)).toNat,by omega⟩
   have fk:q<m.aa.length:=by
    have:(O5 m (n.drop 1))<m.aa.length:=aD
    omega
   obtain⟨t1,t2⟩:=htp q fk
   have f2:=BY m (q+1) (m.aa.getD q bj).top om pM tn dJ (bY _) t1 t2
   rw [show((q+1:Nat):Int)-1=q from by omega] at f2
   rw [iN rO,hq,show((q:Int)+1).toNat=q+1 from by omega,Int.toNat_natCast]
   refine Xl 14 Qg kR ?_
   refine Zg ah f2 ?_
   refine yT hC ah ?_
   exact .aF ⟨.c (.int _ _),.c (.int _ _),.c (.int _ _),trivial⟩
  all_goals (exfalso;first|omega|exact hb h1)
 ·rw [show qN m k n=mh m k n from iN eU]
  exact BY m k n hk pM tn dJ (bY k) hn eU
theorem Aw (m:Qz) (k:Nat) (n:BS) (hk:k≤m.aa.length) (pM:m.events.length≤1099511627776) (tn:m.af.length≤1099511627776) (dJ:m.aa.length≤1099511627776) (bY:(Qt m k).length≤1099511627776) (hn:n.length≤1099511627776):Fa prog 91 [.agg (Xo true m),.c (.int .i64 ((k:Int)-1)),.c (.str (sB n))] (.c (.bool (Yg m k n))):=by
 by_cases eU:0<n.length∧XE n 0=64
 ·have f1:=AT m (Vn n 1 n.length) dJ
  rw [VG] at f1
  rw [show Yg m k n=decide (O5 m (n.drop 1)≥0) from iP eU]
  obtain⟨h0,h1⟩:=eU
  refine fA func91 fun C hC=>?_
  refine zA o0 ?_
  refine xB fun g1 ah=>?_
  repeat' first|refine zV ah ?_|refine zH ah ?_ ?_<;>intro hb|fail
  ·refine Xl 6 Qg kR ?_
   refine zA ah ?_
   rw [VG]
   refine Zg ah f1 ?_
   refine yT hC ah ?_
   exact .one (.c (.bool _))
  all_goals (exfalso;first|omega|exact hb h1)
 ·have f1:=BY m k n hk pM tn dJ bY hn eU
  have e1:Yg m k n=decide ((mh m k n).1≥0):=by
   have h1:=xb (fun x:X7=>x.name==n) m.events
   unfold Yg mh
   rw [iN eU]
   by_cases a:Vt m n≥0
   ·rw [iP a];simp [a]
   by_cases b:ey m n≥0
   ·rw [iN a,iP b];simp [b]
   by_cases c:fg (Qt m k) n≥0
   ·rw [iN a,iN b,iP c];simp [c]
   ·rw [iN a,iN b,iN c];simp [a,b,c]
  rw [e1]
  refine fA func91 fun C hC=>?_
  refine zA o0 ?_
  refine xB fun g1 ah=>?_
  repeat' first|refine zV ah ?_|refine yQ ah f1 ?_|refine zH ah ?_ ?_<;>intro hb|fail
  ·exfalso;exact eU (by simp_all)
  all_goals
   refine yT hC ah ?_
   exact .one (.c (.bool _))
theorem G2 (r:RD) (hw:r.wf 1073741824):Fa prog 85 [.agg (YS r)] (.c (.bool (OK r))):=by
 have f1:=Bj r (XZ hw Af)
 have f2:=BQ r hw
 unfold OK
 refine fA func85 fun C hC=>?_
 refine zA o0 ?_
 refine xB fun g1 ah=>?_
 repeat' first|refine zV ah ?_|refine yQ ah f1 ?_|refine yQ ah f2 ?_|refine zH ah ?_ ?_<;>intro hb|fail
 all_goals
  refine yT hC ah ?_
  refine .one (.c (Qe ?_))
  simp [hb]
theorem Qnm (r:RD) (hw:r.wf 1073741824):Fa prog 90 [.agg (YS r)] (.c (.bool (n9 r))):=by
 unfold n9
 obtain⟨w1,w2⟩:r.num.length≤1073741824∧r.den.length≤1073741824:=⟨hw.2.2.1,hw.2.2.2⟩
 refine fA func90 fun C hC=>?_
 refine zA o0 ?_
 refine xB fun g1 ah=>?_
 repeat' first|refine zV ah ?_|refine zH ah ?_ ?_<;>intro hb|fail
 all_goals
  refine yT hC ah ?_
  refine .one (.c (Qe ?_))
  simp_all
theorem S8 (k:Int):Fa prog 88 [.c (.int .i64 k)] (.aF [.c (.int .i64 (lv k).1),.c (.int .i64 (lv k).2)]):=by
 refine fA func88 fun C hC=>?_
 repeat' first|refine zV o0 ?_|refine zH o0 ?_ ?_<;>intro hb|fail
 all_goals first
  |(exfalso;omega)
  |(refine xT hC ?_
    refine .aF ⟨.c (Qn ?_),.c (Qn ?_),trivial⟩
    all_goals
     unfold lv
     repeat' split
     all_goals first|rfl|(exfalso;omega))
theorem SS (m:Qz) (k i:Nat) (hk:k≤m.aa.length) (dJ:m.aa.length≤1048576) (bY:∀k,(Qt m k).length≤1048576) (hi:i≤1048576):Fa prog 147 [.agg (Xo true m),.c (.int .i64 ((k:Int)-1)),.c (.int .i64 i)] (.c (.int .i64 (YQ m k+i))):=by
 have hN:=CI bY
 refine fA func147 fun C hC=>?_
 refine zA o0 ?_
 refine xB fun g1 ah=>?_
 refine zA ah ?_
 refine Qh (fun j:Nat=>[(1,.c (.int .i64 ((k:Int)-1))),(3,.c (.aj g1 0)),(7,.c (.int .i64 (YQ m j+i))),(8,.c (.int .i64 ((j:Int)-1)))]) (fun _=>[(g1,.cells 45 8 (ao (Xo true m)))]) (fun j=>j≤k) (fun j=>k-j) 0 (by refine yS ah ?_;and_intros<;>first|rfl|exact True.intro|exact Ul (by unfold YQ;omega)) zZ (Lz _) ?_
 intro j hj
 have f1:=Kh m j om om
 have h1:=hN j
 have h2:=bY j
 repeat' first|refine zV ah ?_|refine yQ ah f1 ?_|refine zH ah ?_ ?_<;>intro hb|fail
 ·have pS:j<k:=by omega
  refine Qb ⟨j+1,?_⟩
  have e1:YQ m (j+1)=YQ m j+(Qt m j).length:=rfl
  and_intros
  all_goals first|rfl|exact Lr _|exact Ls _ _|exact True.intro|omega|exact Ul (by rw [e1];omega)|exact Ul om
 ·have:j=k:=by omega
  subst this
  refine yT hC ah ?_
  exact .one (.c (.int _ _))
end Go.Proofs.YtjegkdadeghpjaaGreatDoor
namespace Go.AI
section
section
variable {E : Vj} {K : List It} {σ σ' : Sl} {h : Qa} {all rest l : List Oper} {o : Oper}
theorem QuC {f:FuncId} {fn:Func} {ps:Array TypeId} {t e:TypeId} {x:Operand} {ts:Array TypeId} {n:Nat} (hf:E.P.funcs[f]?=some fn) (eJ:(fn.name== "runtime.NumGoroutine")=false) (hb:fn.body.isNone=true) (jo:Extern.findNext fn=none) (he:Extern.find fn=some (Extern.BytealgMakeNoZero.makeNoZero ps #[t]))
  (ht:E.P.underlying t=some (.slice e)) (au:o.op=.call {callee:=.value (.func f),args:= #[x],argTypes:=ts}) (hw:Qu all σ o=some true) (hd:Qs E.N o.dst=true) (hk:ev σ (.func f)=.c (.raw (.func (.func f) #[] #[]))) (hx:ev σ x=.c (.int .i64 n)) (hn:n≤140737488355328)
  (k:∀g,g∉h.keys→aw E (.ops all rest::K) (σ.az o.dst (.c (.aO g 1 0 n))) ((g,.cells e n (fun _=>.any))::h)):aw E (.ops all (o::rest)::K) σ h:=by
 refine UW (r:=fun g=>.c (.aO g 1 0 n)) (ob:=.cells e n (fun _=>.any)) hw hd (fun a w s=> ?_) k
 have h1:=QN s x
 rw [hx] at h1
 have h1:a.eval x=.int .i64 n:=h1
 have h3:=QN s (.func f)
 rw [hk] at h3
 have h3:a.eval (.func f)=.func (.func f) #[] #[]:=h3
 obtain⟨cs,aR,hle,Em⟩:=Lib.run_makeNoZero (P:=E.P) w ps t e ht n (Lt hn Af)
 have bK:=run_callFunc_extern (P:=E.P) hf eJ hb jo he #[a.eval x] w
 rw [h1,aR] at bK
 have bF:(w.drew.drew.alloc (.cells cs e)).heap[w.heap.size]?=some (.cells cs e (0,0)):=heap_alloc_new w.drew.drew _
 refine⟨.slice (some ⟨w.heap.size,0,none⟩) n cs.size,w.drew.drew.alloc (.cells cs e),?_,?_,by simp,⟨cs,bF,hle,fun j hj=>⟨cs[j]'om,Array.getElem?_eq_getElem om,trivial⟩⟩,?_⟩
 ·simp [execOp,au,resolve,invoke,h3,h1,Deferred.ofValue,bK,Result.andThen]
 ·exact(Fr.drew (fun _=>False) w (w.drawn+1)).trans ((Fr.drew (fun _=>False) w.drew (w.drew.drawn+1)).trans (Fr.alloc (fun _=>False) w.drew.drew _) fun _ h _=>h) fun _ h _=>h
 ·exact⟨cs.size,rfl,hle,Em (Lt hn Af),cs,e,⟨(0,0),bF⟩,by omega⟩
theorem QuD {FP FP':Qa} {i m:Nat} {cs:List (Nat×Nat)} {f:FuncId} {fn:Func} {ps:Array TypeId} {t e:TypeId} {x:Operand} {ts:Array TypeId} {n:Nat} (ho:l[i]?=some o) (hf:E.P.funcs[f]?=some fn) (eJ:(fn.name== "runtime.NumGoroutine")=false) (hb:fn.body.isNone=true) (jo:Extern.findNext fn=none) (he:Extern.find fn=some (Extern.BytealgMakeNoZero.makeNoZero ps #[t]))
  (ht:E.P.underlying t=some (.slice e)) (au:o.op=.call {callee:=.value (.func f),args:= #[x],argTypes:=ts}) (hw:Qu l σ o=some true) (hd:Qs E.N o.dst=true) (hk:∀σ:Sl,ev σ (.func f)=.c (.raw (.func (.func f) #[] #[]))) (hx:ev σ x=.c (.int .i64 n)) (hn:n≤140737488355328) (fK:Kq FP' h)
  (k:∀g,g∉h.keys→CW E l K FP' cs (σ.az o.dst (.c (.aO g 1 0 n))) ((g,.cells e n (fun _=>.any))::h)) (hm:m=2∨m=1∧FP'=FP:=by first|exact .inl rfl|exact .inr ⟨rfl,rfl⟩):CW E l K FP ((i,m)::cs) σ h:=by
 refine .k6 ho hm (R:=fun r h2=>∃g,g∉h.keys∧r=.c (.aO g 1 0 n)∧h2=(g,.cells e n (fun _=>.any))::h) (fun σ' K hs=> ?_) ?_ ?_
 ·exact QuC hf eJ hb jo he ht au ((Xg hs).trans hw) hd (hk _) ((XD (by rw [au];simp [Op.operands,Call.operands]) hs).trans hx) hn fun g hg=>XP (Qb ⟨_,⟨g,hg,rfl,rfl⟩,rfl⟩)
 ·rintro r h2 ⟨g,_,_,rfl⟩;exact fun p hp=>Lm _ (fK p hp)
 ·rintro r h2 ⟨g,hg,rfl,rfl⟩;exact k g hg
end
end
section
section
variable {P : Program} {h : Qa} {ρ : Operand → AV}
theorem QB.jA {s d u ty:TypeId} {x:Operand} {g m n:Nat} {f:Nat→CV} {j:TypeInfo} (hs:P.underlying s=some .unsafePointer) (hd:P.underlying d=some (.pointer u)) (hj:P.info? u=some j) (hl:∀count,1≤count→liesAt P P.depth ty count 0 u 1=true) (hc:P.cellsOf ty=n) (jo:0<n) (hx:ρ x=.c (.aj g 0)) (hg:h.get g=some (.cells ty m f)) (hm:n≤m):
  QB P h ρ (.convert s d x) (.c (.aj g 0)):=fun S w e _ ho hh=>by
 have h2:e x=.pointer (some ⟨g,0,none⟩):=by have:=ho x Ag;rw [hx] at this;exact this
 obtain⟨cs,hb,hn,_⟩:=hh _ _ (Qa.get_mem hg)
 have rU:w.shape? g=some (ty,cs.size):=by simp [World.shape?,hb]
 refine⟨_,fun o au=> ?_,rfl⟩
 have:=Lib.run_from_unsafe (P:=P) w ⟨g,0,none⟩ hs hd hj rU (hl _ (by rw [hc];exact(Nat.le_div_iff_mul_le jo).2 om))
 simp [execOp,au,h2,this]
end
end
theorem ln:∀j,j<3→∀S w u,XQ S w (ao [CV.bool false,.ab,.ab] j) u→XQ S w (ao [CV.bool (Go.PN.rd 0).neg,ws true (Go.PN.rd 0).num,ws true (Go.PN.rd 0).den] j) u:=by
 rw [Go.PN.dQ]
 intro j hj S w u h
 match j,hj with
 |0,_=>exact h
 |1,_=>exact XK h
 |2,_=>exact XK h
section
section
variable {E : Vj} {K : List It} {σ σ' : Sl} {h : Qa} {all rest l : List Oper} {o : Oper}
theorem Ic {S:Bool→Nat→Prop} {w:World}:∀{cs:List CV} {us:List Value},XV S w cs us→cs.all CV.aX=true→∀u∈us,u.oneCell'=true
 |[],[],_,_,u,hu=>absurd hu Lj
 |c::cs,u::us,h,hs,v,hv=>by
  rw [List.all_cons,Ba] at hs
  rcases Lb.1 hv with rfl|hv
  ·exact Ug hs.1 h.1
  ·exact Ic h.2 hs.2 v hv
theorem Qp6 {t e size bytes n m k q g off:Nat} {f f2:Nat→CV} {x s:Operand} {cx:CV} {h':Qa} (au:o.op=.call {callee:=.builtin .copy,args:= #[x,s],argTypes:= #[t,t]}) (hw:Qu all σ o=some true) (hd:Qs E.N o.dst=true)
  (ht:QP E.P t=some (e,size,bytes)) (hx:ev σ x=.c (.aO g size off n)) (hg:h.get g=some (.cells e m f)) (hs:ev σ s=.c cx) (cl:Src h size cx k f2) (hq:q=min k n) (hm:off+n*size≤m)
  (df:(Yy f2 0 0 (q*size)).all CV.aX=true) (hh:h.set g (.cells e m (Vl f off (Yy f2 0 0 (q*size))))=h') (kk:aw E (.ops all rest::K) (σ.az o.dst (.c (.int .i64 q))) h'):aw E (.ops all (o::rest)::K) σ h:=by
 subst hh
 refine Kj hw (fun ac w st=> ?_) kk
 have h1:=QN st x
 have h2:=QN st s
 rw [hx] at h1
 rw [hs] at h2
 obtain⟨c,fJ,jq,cE,Pb,RT,⟨_,cQ⟩,oB⟩:=h1
 obtain⟨A,d,jr,hA⟩:=cl.cells st.heap h2
 obtain⟨cs,hb,hn,hj⟩:=st.heap g _ (Qa.get_mem hg)
 obtain⟨hu,inf,hi,bF,cY⟩:=Q6 ht
 have hqk:q*size≤k*size:=Nm _ om
 have hqn:q*size≤n*size:=Nm _ om
 have vy:∃us,(Builtin.firstCells size q (.slice A k d)).run E.P w=.ok us.toArray w∧XV (QH E.C h w) w (Yy f2 0 0 (q*size)) us:=by
  rcases Nat.eq_zero_or_pos (q*size) with h0|h0
  ·refine⟨[],?_,by rw [h0];trivial⟩
   cases A with
   |none=>simp [Builtin.firstCells]
   |some a=>simp [Builtin.firstCells,h0,loadCells,loadCellsFrom]
  ·obtain⟨ad,rfl,hc⟩:=hA om
   obtain⟨us,gW,dy⟩:=JB (P:=E.P) (S:=QH E.C h w) (w:=w) (ad:=ad) (f:=f2) (off:=0) (q*size) 0 #[] (fun j _ hj=>by
    obtain⟨u,e1,e2⟩:=hc j om
    exact⟨u,e1,by rw [Nz];exact e2⟩)
   exact⟨us,by simp [Builtin.firstCells,loadCells,gW],dy⟩
 obtain⟨us,gW,hL⟩:=vy
 have il:us.length=q*size:=by rw [hL.length,Su]
 obtain⟨w',aR,kJ,bd⟩:=Jc (P:=E.P) us w cs off 0 hb om (Ic hL df)
 refine⟨.int .i64 (q:Int),w',.inl ?_,?_⟩
 ·have tB:Nat.min k n=q:=by rw [hq]
  simp only [execOp,au,resolve,invoke,Go.builtin,Builtin.copy_,Sem.run_bind,Sem.run_pure,Result.andThen_ok,List.map_toArray,Ld,List.map_nil,fJ,jr,run_underlying hu,Builtin.lenOf,sizeOf,typeInfo,hi,bF,tB,gW,aR,List.size_toArray,Lc,Lu,List.getElem?_toArray,List.getElem?_cons_zero,List.getElem?_cons_succ,goInt]
  simp [Sem.run_bind,run_underlying hu,Builtin.lenOf,sizeOf,typeInfo,hi,bF,tB,gW,aR,goInt]
 ·have gU:g∈h.keys:=List.mem_map.2 ⟨_,Qa.get_mem hg,rfl⟩
  have eV:(h.set g (.cells e m (Vl f off (Yy f2 0 0 (q*size))))).keys=h.keys:=Qa.gE _ _ _
  have kp:Yn (QH E.C h w) (QH E.C (h.set g (.cells e m (Vl f off (Yy f2 0 0 (q*size))))) w') w w':=
   ⟨fun t b hb=>⟨hb.1,Ae hb.2.1 bd.size,by rw [eV];exact hb.2.2⟩,fun t b hb=>bd.block b hb.2.1 (fun e=>hb.2.2 (e▸gU)),bd.has⟩
  refine(st.setObj (ob':=.cells e m (Vl f off (Yy f2 0 0 (q*size)))) hg bd ⟨_,kJ,by rw [A6];exact hn,?_⟩).put hd (r:=.c (.int .i64 q)) rfl
  have:=Bo (Yy f2 0 0 (q*size)) us cs f (off+0) (hL.aT kp) hn (fun j ba=>by obtain⟨u,hu,hr⟩:=hj j ba;exact⟨u,hu,hr.aT kp⟩)
  simpa using this
end
end
section
section
variable {P : Program} {h : Qa} {ρ : Operand → AV}
theorem QB.mE {t el size bytes:Nat} {x:Operand} (ht:QP P t=some (el,size,bytes)) (hx:ρ x=.c (.raw (.slice none 0 0))):QB P h ρ (.call {callee:=.builtin .cap,args:= #[x],argTypes:= #[t]}) (.c (.int .i64 0)):=fun S w e _ ho _=>by
 have h2:e x=.slice none 0 0:=by have:=ho x (by simp [Op.operands,Call.operands]);rw [hx] at this;exact this
 obtain⟨hu,_⟩:=Q6 ht
 exact⟨.int .i64 0,fun o au=>by simp [execOp,au,resolve,invoke,Go.builtin,Builtin.cap_,h2,run_underlying hu,goInt],rfl⟩
theorem QuE {S:Bool→Nat→Prop} {w:World} {u:Value} {og:Option Nat} {n:Nat} (h:VY S w (.c (JN og n)) u):VY S w (.c (gs og 1 n)) u:=by
 cases og with
 |none=>exact⟨none,h⟩
 |some g=>exact h
end
section
variable {E : Vj} {K : List It} {σ σ' : Sl} {h : Qa}
theorem Qnn {x:Nat×XS} {g n m:Nat} {ty:TypeId} {f:Nat→CV} (hm:m≤n) (k:aw E K σ (x::(g,.cells ty m f)::h)):aw E K σ (x::(g,.cells ty n f)::h):=fun a w s=>by
 refine k a w ⟨s.size,s.defers,s.bC,fun g' o' hq=> ?_,s.nodup,s.keys,s.frame⟩
 rcases Lb.1 hq with e|hq
 ·exact s.heap g' o' (Lb.2 (.inl e))
 ·rcases Lb.1 hq with e|hq
  ·injection e with e1 e2
   subst e1 e2
   obtain⟨cs,hb,hn,hj⟩:=s.heap g' _ (Lm _ (Lf ..))
   exact⟨cs,hb,Lt hm hn,fun j pT=>hj j (Ae pT hm)⟩
  ·exact s.heap g' o' (Lm _ (Lm _ hq))
end
end
end Go.AI
namespace Go.Proofs.YtjegkdadeghpjaaGreatDoor
open Go.AI Go.PN Proofs.Tryz
attribute [local irreducible] aw Fa VA Vk Fh YO
structure qJ (ty:TypeId) (r:List CV):Prop where
 l:∀count,1≤count→liesAt prog prog.depth ty count 0 170 1=true
 c:prog.cellsOf ty=2+r.length
 s:r.all CV.aX=true
abbrev Yr (ty:TypeId) (r:List CV) (gB:Nat) (a b:CV):Nat×XS:=(gB,.cells ty (2+r.length) (ao (a::b::r)))
theorem y5:qJ 170 []:=⟨fun count h=>FG (n:=2) kR om h,by kernel_rfl,rfl⟩
theorem Sh {ty:TypeId} {r:List CV} (hB:qJ ty r) (gB:Nat) (b:CV):Fh prog 276 [Yr ty r gB (.raw (.pointer none)) b] [.c (.aj gB 0)] (fun x h=>x=.aF []∧h=[Yr ty r gB (.aj gB 0) b]):=by
 obtain⟨j,hj,rF⟩:=Option.map_eq_some_iff.1 (show(prog.info? 170).map (·.size)=some 2 from by kernel_rfl)
 refine fH func276 fun C hC=>?_
 refine xG ?_
 refine Xh (QB.kH (b:=true) Ua eE eE (.inl ⟨rfl,rfl⟩)) rfl rfl ?_
 refine ZA ?_
 refine xP ?_
 refine xG ?_
 refine Xh (QB.jO Ua yb hj (by rw [rF];decide) eE eE om) rfl rfl ?_
 refine ZA ?_
 refine Xh (QB.jN func343 rfl rfl rfl rfl rfl eE) rfl rfl ?_
 refine ZA ?_
 refine Xh (QB.jA yb Ua hj hB.l hB.c om eE eE om) rfl rfl ?_
 refine ZA ?_
 refine xW ?_
 refine xS ?_
 refine QY (f':=ao (.aj gB 0::b::r)) (fun j hj=>by match j,hj with|0,_=>rfl|j+1,_=>rfl) ?_
 refine xG ?_
 refine xV ?_
 exact⟨rfl,rfl⟩
theorem Si {ty:TypeId} {r:List CV} (gB:Nat) (b:CV):Fh prog 276 [Yr ty r gB (.aj gB 0) b] [.c (.aj gB 0)] (fun x h=>x=.aF []∧h=[Yr ty r gB (.aj gB 0) b]):=by
 obtain⟨j,hj,rF⟩:=Option.map_eq_some_iff.1 (show(prog.info? 170).map (·.size)=some 2 from by kernel_rfl)
 refine fH func276 fun C hC=>?_
 refine xG ?_
 refine Xh (QB.kH (b:=false) Ua eE eE (.inr ⟨gB,rfl,rfl⟩)) rfl rfl ?_
 refine ZA ?_
 refine xN ?_
 refine xG ?_
 refine Xh (QB.nh Ua hj eE eE) rfl rfl ?_
 refine ZA ?_
 refine xN ?_
 refine xG ?_
 refine xV ?_
 exact⟨rfl,rfl⟩
def lx (a:CV) (gB:Nat) (og:Option Nat) (B:List UInt8):Prop:=(a=.raw (.pointer none)∨a=.aj gB 0)∧(og=none→B.length=0)
abbrev ec (ty:TypeId) (r:List CV) (gB:Nat) (a:CV) (og:Option Nat) (B:List UInt8):Qa:=Yr ty r gB a (JN og B.length)::gh og 5 B.length (UU B)
theorem Ub {ty:TypeId} {r:List CV} (hB:qJ ty r) (gB:Nat) (a b:CV) (ha:a=.raw (.pointer none)∨a=.aj gB 0):Fh prog 276 [Yr ty r gB a b] [.c (.aj gB 0)] (fun x h=>x=.aF []∧h=[Yr ty r gB (.aj gB 0) b]):=by
 rcases ha with rfl|rfl
 ·exact Sh hB ..
 ·exact Si ..
theorem wy {ty:TypeId} {r:List CV} (hB:qJ ty r) (gB:Nat) (a:CV) (og:Option Nat) (B l:List UInt8) (lF:lx a gB og B) (hlen:B.length+l.length≤100000000000):
  Fh prog 169 (ec ty r gB a og B) [.c (.aj gB 0),.c (.str (sB l))]
   (fun x h=>∃dA,lx (.aj gB 0) gB dA (B++l)∧x=.aF [.c (.int .i64 l.length),.c .aN]∧h=ec ty r gB (.aj gB 0) dA (B++l)):=by
 obtain⟨ha,ax⟩:=lF
 have ke:=Ub hB gB a (JN og B.length) ha
 refine fH func169 fun C hC=>?_
 refine xG ?_
 refine Qq (hc:=[Yr ty r gB a (JN og B.length)]) (hr:=gh og 5 B.length (UU B)) ke rfl rfl rfl (.refl _) eL ?_
 rintro _ _ ⟨rfl,rfl⟩ _
 refine ZA ?_
 refine Fj (pre:=[Yr ty r gB (.aj gB 0) (JN og B.length)]) (f:=UU B) (bs:=sB l) rfl rfl rfl eE Cx eE (by rfl) eE eE ax rfl (by rw [JO];unfold maxLen;omega) (by rw [JO];omega) fun dA h1 h2=> ?_
 rw [JO,Mf,List.singleton_append]
 refine Iz (n':=(B++l).length) (f':=UU (B++l)) (by simp) (fun j _=>Cw B l j) ?_
 rw [show B.length+l.length=(B++l).length from by simp]
 rw [JO,show B.length+l.length=(B++l).length from by simp] at h1
 refine ZA ?_
 have df:(JN dA (B++l).length).aX=true:=by cases dA<;>rfl
 refine Kn rfl rfl rfl rfl eE eE eE eE (fun _ e=>by cases e) (by simp only [AV.cells,List.all_cons,List.all_nil,df];rfl) (by rfl) om rfl ?_
 refine xS ?_
 refine QY (f':=ao (.aj gB 0::JN dA (B++l).length::r)) (fun j hj=>by match j,hj with|0,_=>rfl|1,_=>rfl|j+2,_=>rfl) ?_
 refine xG ?_
 refine xU ?_
 exact⟨dA,⟨.inr rfl,h1⟩,rfl,rfl⟩
theorem Qno {ty:TypeId} {r:List CV} (hB:qJ ty r) (gB:Nat) (a:CV) (og:Option Nat) (B:List UInt8) (c:UInt8) (lF:lx a gB og B) (hlen:B.length+1≤100000000000):
  Fh prog 170 (ec ty r gB a og B) [.c (.aj gB 0),.c (.int .u8 (c.toNat:Int))]
   (fun x h=>∃dA,lx (.aj gB 0) gB dA (B++[c])∧x=.c .aN∧h=ec ty r gB (.aj gB 0) dA (B++[c])):=by
 obtain⟨ha,ax⟩:=lF
 have ke:=Ub hB gB a (JN og B.length) ha
 refine fH func170 fun C hC=>?_
 refine xG ?_
 refine Qq (hc:=[Yr ty r gB a (JN og B.length)]) (hr:=gh og 5 B.length (UU B)) ke rfl rfl rfl (.refl _) eL ?_
 rintro _ _ ⟨rfl,rfl⟩ _
 refine ZA ?_
 refine ZP (t:=11) (v:=.c (gs og 1 B.length)) (fun S w u h=>QuE h) rfl ?_
 refine xS ?_
 refine Qj (h':=[Yr ty r gB (.aj gB 0) (JN og B.length)]++gh og 5 (B.length*1) (UU B)) (by rw [Ad];exact .refl _) ?_
 refine QT (pre:=[Yr ty r gB (.aj gB 0) (JN og B.length)]) rfl rfl rfl rfl rfl rfl rfl eE eE (by rfl) om om eE om (by exact ax) eE (by rfl) (by rfl) qb qc om (by exact Qnf B c) fun g n_=> ?_
 replace n_:=Qa.ay n_
 first|dsimp only [Qa.ne,gh] at n_|dsimp only [Qa.ne] at n_|skip
 refine yS n_ ?_
 rw [show B.length+1=(B++[c]).length from by simp]
 refine(?_:aw _ _ _ (Yr ty r gB (.aj gB 0) (JN og B.length)::gh (some g) 5 (B++[c]).length (UU (B++[c]))))
 refine yG n_ ?_
 refine Kn rfl rfl rfl rfl (zE n_) (zE n_) (zE n_) (zE n_) (fun _ e=>by cases e) (by rfl) (by rfl) om rfl ?_
 refine yS n_ ?_
 refine QY (f':=ao (.aj gB 0::JN (some g) (B++[c]).length::r)) (fun j hj=>by match j,hj with|0,_=>rfl|1,_=>rfl|j+2,_=>rfl) ?_
 refine yG n_ ?_
 refine yU n_ ?_
 exact⟨some g,⟨.inr rfl,fun e=>by cases e⟩,rfl,rfl⟩
theorem QsH {ty:TypeId} {r:List CV} (gB:Nat) (a:CV) (og:Option Nat) (B:List UInt8) (ax:og=none→B.length=0):
  Fh prog 106 (ec ty r gB a og B) [.c (.aj gB 0)] (fun x h=>x=.c (.int .i64 B.length)∧h=ec ty r gB a og B):=by
 cases og with
 |none=>
  have hB:=Lh.1 (ax rfl)
  subst hB
  refine fH func106 fun C hC=>?_
  refine xG ?_
  refine Xh (QB.gF (by exact VD) eE) rfl rfl ?_
  refine ma ?_
  exact⟨rfl,rfl⟩
 |some g=>
  refine(?_:Fh _ _ (Yr ty r gB a (.aO g 1 0 B.length)::[(g,.cells 5 B.length (UU B))]) _ _)
  refine fH func106 fun C hC=>?_
  refine xG ?_
  refine xU ?_
  exact⟨rfl,rfl⟩
theorem QsI {ty:TypeId} {r:List CV} (gB n:Nat) (a:CV) (hn:n≤140737488355328):
  Fh prog 289 [Yr ty r gB a (JN none 0)] [.c (.aj gB 0),.c (.int .i64 n)]
   (fun x h=>∃g,x=.aF []∧h=ec ty r gB a (some g) []):=by
 refine(?_:Fh _ _ [Yr ty r gB a (.raw (.slice none 0 0))] _ _)
 have pJ:(2:Int)*0+(n:Int)=n:=by omega
 refine fH func289 fun C hC=>?_
 refine yG pJ ?_
 refine Yl [Yr ty r gB a (.raw (.slice none 0 0))] [(0,0),(1,0),(2,0),(3,0),(4,0),(5,0),(6,0),(7,0),(9,0),(10,0),(11,0),(12,0),(13,0),(8,1),(14,0),(15,0)] Qg kR (Qm (Lf ..) Qf) ?_
 refine yG pJ ?_
 refine Z1 rfl (fun _ _=>QB.mE (by exact VD) (zE pJ)) rfl rfl ?_
 refine Xw pJ ?_
 refine Z1 rfl (fun _ _=>QB.gF (by exact VD) (zE pJ)) rfl rfl ?_
 refine Xw pJ ?_
 refine QuD (n:=n) rfl func354 rfl rfl rfl rfl underlying168 rfl rfl rfl (fun _=>rfl) (zE pJ) hn (Qm (Lf ..) Qf) (fun g n_=> ?_) (.inr ⟨rfl,rfl⟩)
 replace n_:=Qa.ay n_
 dsimp only [Qa.ne] at n_
 have J1:=oj pJ n_
 refine Xw J1 ?_
 refine ZP (t:=24) (v:=.c .ab) (fun S w u h=>⟨none,h⟩) rfl ?_
 refine Qp6 (n:=0) (k:=0) (q:=0) (m:=n) (f2:=fun _=>.any) rfl rfl rfl (by exact VD) (zE J1) (zE J1) (zE J1) .ab rfl om rfl (zE J1) ?_
 refine Xw J1 ?_
 refine yW J1 ?_
 refine yS J1 ?_
 refine Qj (List.Perm.swap _ _ _) ?_
 refine Qnn (m:=0) (Lz _) ?_
 refine Qj (List.Perm.swap _ _ _) ?_
 refine QY (f':=UU []) (fun j hj=>absurd hj (Nat.not_lt_zero j)) ?_
 refine Qj (List.Perm.swap _ _ _) ?_
 refine QY (f':=ao (a::.aO g 1 0 0::r)) (fun j hj=>by match j,hj with|0,_=>rfl|1,_=>rfl|j+2,_=>rfl) ?_
 refine yG J1 ?_
 refine yV J1 ?_
 exact⟨g,rfl,rfl⟩
theorem Qp7 {ty:TypeId} {r:List CV} (hB:qJ ty r) (gB n:Nat) (a:CV) (ha:a=.raw (.pointer none)∨a=.aj gB 0) (h0:0<n) (hn:n≤140737488355328):
  Fh prog 179 [Yr ty r gB a (JN none 0)] [.c (.aj gB 0),.c (.int .i64 n)]
   (fun x h=>∃g,x=.aF []∧h=ec ty r gB (.aj gB 0) (some g) []):=by
 have ke:=Ub hB gB a (JN none 0) ha
 have hgr:=QsI (ty:=ty) (r:=r) gB n (.aj gB 0) hn
 have d0:decide (0<n)=true:=Dt h0
 have d1:decide (n<0)=false:=De (Nat.not_lt_zero n)
 have d2:(0:Int)-0=0:=rfl
 refine fH func179 fun C hC=>?_
 have J1:=oj d0 (oj d1 d2)
 refine yG J1 ?_
 refine Qq (hc:=[Yr ty r gB a (JN none 0)]) (hr:=[]) ke rfl rfl rfl (.refl _) (zL J1) ?_
 rintro _ _ ⟨rfl,rfl⟩ _
 refine Xw J1 ?_
 refine(?_:aw _ _ _ [Yr ty r gB (.aj gB 0) (.raw (.slice none 0 0))])
 refine yN J1 ?_
 refine yG J1 ?_
 refine Xl 13 Qg kR ?_
 refine yG J1 ?_
 refine KR (QB.mE (by exact VD) (zE J1)) rfl rfl ?_
 refine Xw J1 ?_
 refine KR (QB.gF (by exact VD) (zE J1)) rfl rfl ?_
 refine Xw J1 ?_
 refine yP J1 ?_
 refine yG J1 ?_
 refine Qq (hc:=[Yr ty r gB (.aj gB 0) (JN none 0)]) (hr:=[]) hgr rfl rfl rfl (.refl _) (zL J1) ?_
 rintro _ _ ⟨g,rfl,rfl⟩ _
 refine pw J1 ?_
 exact⟨g,rfl,rfl⟩
theorem Ie {ty:TypeId} {r:List CV} (gB:Nat) (a:CV) (og:Option Nat) (B:List UInt8) (h0:og=none→B=[]) (h1:B=[]→og=none) (hlen:B.length≤100000000000):
  Fh prog 107 (ec ty r gB a og B) [.c (.aj gB 0)] (fun x h=>x=.c (.str (sB B))∧h=[]):=by
 cases og with
 |none=>
  have hB:=h0 rfl
  subst hB
  refine fH func107 fun C hC=>?_
  refine xG ?_
  refine Xl 11 Qg kR ?_
  refine xG ?_
  refine KR (QB.gK eE) rfl rfl ?_
  refine ZA ?_
  refine KR (QB.gF (by exact VD) eE) rfl rfl ?_
  refine ZA ?_
  refine KR (QB.gL eE eE) rfl rfl ?_
  refine ZA ?_
  refine Xa (Sl.le_refl _) (List.nil_sublist _) ?_
  refine xU ?_
  exact⟨rfl,rfl⟩
 |some g=>
  have hB:B≠[]:=fun e=>by have:=h1 e;cases this
  have DH:0<B.length:=List.length_pos_iff.2 hB
  refine(?_:Fh _ _ (Yr ty r gB a (.aO g 1 0 B.length)::[(g,.cells 5 B.length (UU B))]) _ _)
  refine fH func107 fun C hC=>?_
  refine YY fun bf=> ?_
  have aK:gB≠g:=fun e=>by subst e;simp [Qa.keys] at bf
  have bc:(gB=g)=False:=eq_false aK
  refine yG bc ?_
  refine Yl [Yr ty r gB a (.aO g 1 0 B.length)] [(0,0),(1,0),(2,0),(3,0),(4,0),(5,0),(6,0),(7,0),(8,0),(9,0),(10,2),(11,0)] Qg kR (Qm (Lf ..) Qf) ?_
  refine yG bc ?_
  refine Z1 rfl (fun _ _=>QB.iQ (zE bc) DH) rfl rfl ?_
  refine Xw bc ?_
  refine Fk (FP':=[]) (bs:=B) (h':=[Yr ty r gB a (.aO g 1 0 B.length)]) rfl rfl rfl rfl Mg kR (zE bc) (zE bc) (zE bc) (Ac _) hB om (fun _ _=>rfl) (zE bc) Qf ?_
  refine Xw bc ?_
  refine Xa (Sl.le_refl _) (List.nil_sublist _) ?_
  refine yU bc ?_
  exact⟨rfl,rfl⟩
theorem QsJ (t:Bool) (l:List BS) (hl:l.length+VK l l.length≤10000000000):Fa prog 113 [.c (YH t l),.c (.str (sB [32]))] (.c (.str (sB (OL l)))):=by
 match l,hl with
 |[],_=>
  refine fA func113 fun C hC=>?_
  refine zA o0 ?_
  refine xT hC ?_
  exact .one (.c (.str _))
 |[x],_=>
  have e:OL [x]=x:=by simp [OL]
  rw [e]
  refine fA func113 fun C hC=>?_
  refine zA o0 ?_
  refine xT hC ?_
  exact .one (.c (.str _))
 |x::y::r,hl=>
  obtain⟨l,lJ⟩:∃l,l=x::y::r:=⟨_,rfl⟩
  rw [←lJ] at hl⊢
  obtain⟨N,hN⟩:∃N,l.length=N:=⟨_,rfl⟩
  have h2N:2≤N:=by rw [←hN,lJ];simp
  rw [hN] at hl
  refine(?_:Fa _ _ [.c (.row t 1 l.length (Qi l)),_] _)
  rw [hN]
  have h1:((N:Int)==0)=false:=by rw [beq_eq_false_iff_ne];omega
  have h2:((N:Int)==1)=false:=by rw [beq_eq_false_iff_ne];omega
  have rO:qO .i64 9223372036854775807 ((N:Int)-1)=((9223372036854775807/(N-1):Nat):Int):=by
   rw [xE,show((N:Int)-1)=((N-1:Nat):Int) from by omega]
   show IntKind.i64.wrap (Int.tdiv _ _)=_
   rw [show(9223372036854775807:Int).tdiv ((N-1:Nat):Int)=((9223372036854775807/(N-1):Nat):Int) from rfl]
   exact XN (by have:=Nat.div_le_self 9223372036854775807 (N-1);generalize 9223372036854775807/(N-1)=q at*;simp only [XM];omega)
  have rP:2≤9223372036854775807/(N-1):=(Nat.le_div_iff_mul_le om).2 om
  have hq:decide (1≥qO .i64 9223372036854775807 ((N:Int)-1))=false:=De (by rw [rO];generalize 9223372036854775807/(N-1)=q at rP⊢;omega)
  obtain⟨T,hT⟩:∃T:Nat→Nat,∀j,T j=N-1+VK l j:=⟨_,fun _=>rfl⟩
  have cA:(0:Int)+1*((N:Int)-1)=((T 0:Nat):Int):=by rw [hT,show VK l 0=0 from rfl];clear rO rP hq;omega
  refine fA func113 fun C hC=>?_
  refine zA (oj h1 (oj h2 (oj hq cA))) ?_
  refine Qh (fun j:Nat=>[(0,.c (.row t 1 N (Qi l))),(1,.c (.str (sB [32]))),(5,.c (.int .i64 (T j:Int))),(39,.c (.row t 1 N (Qi l))),(40,.c (.int .i64 N)),(41,.c (.int .i64 j))]) (fun _=>[]) (fun j=>j≤N) (fun j=>N-j) 0 (zB (oj h1 (oj h2 (oj hq cA)))) zZ (Lz _) ?_
  rintro j hj
  by_cases P2:j<N
  ·have d1:decide (j<N)=true:=Dt P2
   have s1:=AO l j om
   have s2:=Mh l (N-(j+1)) (j+1) om
   rw [hN] at s2
   have s3:(T j:Int)+((l.getD j []).length:Int)=(T (j+1):Int):=by rw [hT,hT];omega
   have s4:T j+(l.getD j []).length≤10000000000:=by rw [hT];omega
   all_goals try(have Z:=(oj h1 (oj h2 (oj hq (oj cA (oj d1 s3)))));(repeat' first|refine zV Z ?_|refine zH Z ?_ ?_<;>intro hb|fail);all_goals clear Z)
   ·exact absurd hb om
   ·exact Qb ⟨j+1,by omega,(zB (oj h1 (oj h2 (oj hq (oj cA (oj d1 s3)))))),zZ,by omega⟩
  ·have d1:decide (j<N)=false:=De P2
   have e:j=N:=by omega
   subst e
   have hTj:T j≤10000000000:=by rw [hT];omega
   have hT0:0<T j:=by rw [hT];omega
   have g0:l.getD 0 []=x:=by rw [lJ];rfl
   have g1:∀i,l.getD (1+i) []=(y::r).getD i []:=fun i=>by rw [lJ,Nat.add_comm];rfl
   have Rc:(y::r).length=j-1:=by rw [←hN,lJ];simp
   have c0:Jy x (y::r) 0=x:=by simp [Jy]
   have cN:OL l=Jy x (y::r) (j-1):=by rw [lJ,←Rc];unfold Jy;rw [Lk];rfl
   have bS:∀i,i≤j-1→(Jy x (y::r) i).length≤10000000000:=fun i hi=>by
    rw [wN x (y::r) i om]
    have a1:=Mh (y::r) (j-1-i) i om
    have a2:VK l j=x.length+VK (y::r) (y::r).length:=by rw [←hN,lJ];unfold VK;rw [Lk,Lk];rfl
    rw [Rc] at a1 a2
    omega
   have EU:x.length≤10000000000:=by have:=bS 0 (Lz _);rwa [c0] at this
   refine zA (oj h1 (oj h2 (oj hq (oj cA (oj d1 g0))))) ?_
   refine GR (vs:=[.pointer none,.slice none 0 0]) rfl rfl rfl kR fun gB n_B=> ?_
   refine(?_:aw _ _ _ [Yr 170 [] gB (.raw (.pointer none)) (JN none 0)])
   have J1:=oj h1 (oj h2 (oj hq (oj cA (oj d1 g0))))
   refine Xw J1 ?_
   refine Qq (hc:=[Yr 170 [] gB (.raw (.pointer none)) (JN none 0)]) (hr:=[]) (Qp7 y5 gB (T j) _ (.inl rfl) hT0 om) rfl rfl rfl (.refl _) (zL J1) ?_
   rintro _ _ ⟨g,rfl,rfl⟩ _
   refine Xw J1 ?_
   refine Qq (hc:=ec 170 [] gB (.aj gB 0) (some g) []) (hr:=[]) (wy y5 gB _ (some g) [] x ⟨.inr rfl,fun e=>by cases e⟩ (by rw [Lu];omega)) rfl rfl rfl (.refl _) (zL J1) ?_
   rintro _ _ ⟨og,h3,rfl,rfl⟩ _
   refine Xw J1 ?_
   rw [Ln] at h3
   refine Qh (fun z:Nat×Option Nat=>[(1,.c (.str (sB [32]))),(8,.c (.aj gB 0)),(63,.c (.row t 1 (j-1) fun q=>.str (sB (l.getD (1+q) [])))),(64,.c (.int .i64 ((j-1:Nat):Int))),(65,.c (.int .i64 z.1))]) (fun z=>ec 170 [] gB (.aj gB 0) z.2 (Jy x (y::r) z.1)) (fun z=>z.1≤j-1∧lx (.aj gB 0) gB z.2 (Jy x (y::r) z.1)) (fun z=>j-1-z.1) (0,og) (zB J1) (by dsimp only;rw [c0];exact Lr _) ⟨Lz _,by rw [c0];exact h3⟩ ?_
   rintro ⟨q,ej⟩ ⟨jK,lF⟩
   dsimp only at jK lF⊢
   have D3:=bS q jK
   by_cases Ra:q<j-1
   ·have e1:decide (q<j-1)=true:=Dt Ra
    have cn:=GS x (y::r) q om
    have hcq2:=bS (q+1) om
    have g2:=g1 q
    refine zA (oj h1 (oj h2 (oj hq (oj cA (oj d1 (oj g0 (oj e1 g2))))))) ?_
    refine Qq (hc:=ec 170 [] gB (.aj gB 0) ej (Jy x (y::r) q)) (hr:=[]) (wy y5 gB _ ej (Jy x (y::r) q) [32] lF (by simp;omega)) rfl rfl rfl (by rw [Lp]) (zL (oj h1 (oj h2 (oj hq (oj cA (oj d1 (oj g0 (oj e1 g2)))))))) ?_
    rintro _ _ ⟨Ry,h4,rfl,rfl⟩ _
    have J2:=oj h1 (oj h2 (oj hq (oj cA (oj d1 (oj g0 (oj e1 g2))))))
    refine Xw J2 ?_
    refine Qq (hc:=ec 170 [] gB (.aj gB 0) Ry (Jy x (y::r) q++[32])) (hr:=[]) (wy y5 gB _ Ry (Jy x (y::r) q++[32]) ((y::r).getD q []) h4 (by rw [←La,←cn];omega)) rfl rfl rfl (by rw [Lp]) (zL J2) ?_
    rintro _ _ ⟨og4,h5,rfl,rfl⟩ _
    rw [←cn] at h5⊢
    refine Xw J2 ?_
    exact Qb ⟨(q+1,og4),by dsimp only;omega,(zB J2),zZ,by dsimp only;omega,h5⟩
   ·have e1:decide (q<j-1)=false:=De Ra
    have e2:q=j-1:=by omega
    subst e2
    have aK:0<(Jy x (y::r) (j-1)).length:=by rw [wN x (y::r) (j-1) om];omega
    refine zA (oj h1 (oj h2 (oj hq (oj cA (oj d1 (oj g0 e1)))))) ?_
    refine Qq (hc:=ec 170 [] gB (.aj gB 0) ej (Jy x (y::r) (j-1))) (hr:=[]) (Ie gB _ ej _ (fun e=>Lh.1 (lF.2 e)) (fun e=>by rw [e] at aK;simp at aK) om) rfl rfl rfl (by rw [Lp]) (zL (oj h1 (oj h2 (oj hq (oj cA (oj d1 (oj g0 e1))))))) ?_
    rintro _ _ ⟨rfl,rfl⟩ _
    have J3:=oj h1 (oj h2 (oj hq (oj cA (oj d1 (oj g0 e1)))))
    refine Xw J3 ?_
    rw [cN]
    refine yT hC J3 ?_
    exact .one (.c (.str _))
end Go.Proofs.YtjegkdadeghpjaaGreatDoor
namespace Go.AI
open Go.Sort
theorem QsK {w w':World} (h:Fr (fun _=>False) w w'):∃q RA,w'=grow (w.drewN q) RA:=by
 refine⟨w'.drawn-w.drawn,w'.heap.extract w.heap.size w'.heap.size,?_⟩
 have h1:=h.os
 have h2:=h.tape
 have h3:=h.output
 have h4:=h.drawn
 have h5:=h.size
 have h6:=h.block
 have hh:w'.heap=w.heap++w'.heap.extract w.heap.size w'.heap.size:=by
  refine Array.ext_getElem? fun b=> ?_
  by_cases hb:b<w.heap.size
  ·rw [Array.getElem?_append_left hb];exact h6 b hb (fun x=>x)
  ·rw [Array.getElem?_append_right om,Array.getElem?_extract]
   by_cases iE:b<w'.heap.size
   ·rw [iP om];congr 1;omega
   ·rw [iN om,Array.getElem?_eq_none om]
 have hd:w.drawn+(w'.drawn-w.drawn)=w'.drawn:=by omega
 cases w with
 |mk heap tape drawn os output=>
  cases w' with
  |mk PL RQ Du RA Ai=>
   simp only at h1 h2 h3 hh hd
   subst h1 h2 h3
   unfold grow World.drewN
   simp only [World.mk.injEq,true_and]
   exact⟨hh,hd.symm,trivial⟩
end Go.AI
namespace Go.AI
open Go.PN Go.Sort Go.Shelf Go.Proofs
structure WA (k:Nat) where
 nm:BS
 vs:List Value
 len:vs.length+1=k
 one:∀v∈vs,v.oneCell'=true
abbrev WA.enc {k:Nat} (x:WA k):List Value:=.string (sB x.nm)::x.vs
def WA.cf {k:Nat} (x y:WA k):Int:=Go.Lib.compareBytes x.nm y.nm
theorem WA.lt {k:Nat} (x y:WA k):ltOf WA.cf x y=Vy x.nm y.nm:=Nh x.nm y.nm
theorem WA.swo {k:Nat}:SWO (ltOf (WA.cf (k:=k))) where
 irrefl x:=by rw [WA.lt];exact Cy _
 trans x y z h1 h2:=by rw [WA.lt] at*;exact Ot h1 h2
 ntrans x y z h1 h2:=by rw [WA.lt] at*;exact AS h2 h1
def nX (P:Program) (f:FuncId) (k:Nat):Prop:=∀x y:WA k,Fa P f [.agg (.str (sB x.nm)::x.vs.map .raw),.agg (.str (sB y.nm)::y.vs.map .raw)] (.c (.int .i64 (Go.Lib.compareBytes x.nm y.nm)))
theorem AW (S:Bool→Nat→Prop) (w:World):∀l:List Value,XV S w (l.map CV.raw) l
 |[]=>trivial
 |_::l=>⟨rfl,AW S w l⟩
theorem nX.E0 {P:Program} {f:FuncId} {k:Nat} [Inhabited (WA k)] (h:nX P f k) (ml off size:Nat) (w:World):CmpLays P f #[] (WA.enc (k:=k)) k WA.cf ml off size w:=by
 intro m os dk _ x y
 refine((h x y).2 (fun _ _=>False) _ [.agg (WA.enc x).toArray,.agg (WA.enc y).toArray] (fun _ h=>h) (fun _ _ h=>h.elim) trivial ⟨⟨_,rfl,rfl,AW _ _ _⟩,⟨_,rfl,rfl,AW _ _ _⟩,trivial⟩).mono ?_
 rintro e w' ⟨v,rfl,hr,bd⟩
 have hv:v=.int .i64 (Go.Lib.compareBytes x.nm y.nm):=hr
 exact⟨by rw [hv];rfl,QsK bd⟩
theorem Qp8 {w:World} {g:Nat} {cs:Array Value} {ty:TypeId} {fr:Nat×Nat} (hb:w.heap[g]?=some (.cells cs ty fr)) (m:Nat) (F:Array Value) (os:Array Obj):
  (grow (putRow id (Sort.ahead w m) g 0 F) os).heap[g]?=some (.cells (putCells id 0 F cs) ty fr)∧(∀b,b<w.heap.size→b≠g→(grow (putRow id (Sort.ahead w m) g 0 F) os).heap[b]?=w.heap[b]?)∧w.heap.size≤(grow (putRow id (Sort.ahead w m) g 0 F) os).heap.size:=by
 have hg:g<w.heap.size:=(Array.getElem?_eq_some_iff.1 hb).1
 have bF:(putRow id (Sort.ahead w m) g 0 F).heap.size=w.heap.size:=by simp [putRow,mapBlock,Sort.ahead]
 refine⟨?_,fun b rn aK=> ?_,?_⟩
 ·rw [heap_grow_old _ _ (by rw [bF];exact hg)]
  simp only [putRow,mapBlock,Sort.ahead,Array.getElem?_modify,if_true,hb,Option.map_some]
  rfl
 ·rw [heap_grow_old _ _ (by rw [bF];exact rn)]
  simp only [putRow,mapBlock,Sort.ahead,Array.getElem?_modify]
  rw [iN (fun e=>aK e.symm)]
 ·rw [size_grow,bF]
  omega
theorem Mm:∀{l:List CV} {j:Nat} (h:j<l.length),ao l j=l[j]
 |_::_,0,_=>rfl
 |_::l,j+1,h=>Mm (l:=l) (by simpa using h)
theorem G3 {S:Bool→Nat→Prop} {w:World}:∀{cs:List CV} {us:List Value},XV S w cs us→cs.all CV.aX=true→∀u∈us,u.oneCell'=true
 |[],[],_,_,u,hu=>by cases hu
 |c::cs,v::us,hr,hs,u,hu=>by
  rw [List.all_cons,Ba] at hs
  rcases Lb.1 hu with rfl|hu
  ·exact Ug hs.1 hr.1
  ·exact G3 hr.2 hs.2 u hu
 |[],_::_,hr,_,_,_=>hr.elim
 |_::_,[],hr,_,_,_=>hr.elim
theorem QuF {S:Bool→Nat→Prop} {w:World} {k:Nat} (oG:0<k) {cx r:List CV} {n:BS} (D4:cx=.str (sB n)::r) (hlen:r.length+1=k) (df:r.all CV.aX=true) {cell:Nat→Option Value} (iF:∀q,q<k→∃u,cell q=some u∧XQ S w (ao cx q) u):
  ∃e:WA k,e.nm=n∧XV S w cx e.enc∧∀q,q<k→cell q=e.enc[q]?:=by
 have key:∀(l:List CV) (o:Nat),(∀q,q<l.length→∃u,cell (o+q)=some u∧XQ S w (ao l q) u)→∃us:List Value,XV S w l us∧∀q,q<l.length→cell (o+q)=us[q]?:=fun l=>by
  induction l with
  |nil=>intro o _;exact⟨[],trivial,fun q hq=>absurd hq (Nat.not_lt_zero q)⟩
  |cons a l ih=>
   intro o h
   obtain⟨u,hu,gp⟩:=h 0 (by simp)
   obtain⟨us,h1,h2⟩:=ih (o+1) fun q hq=>by
    obtain⟨u,hu,gp⟩:=h (q+1) (by simpa using hq)
    exact⟨u,by rw [←hu];congr 1;omega,gp⟩
   refine⟨u::us,⟨gp,h1⟩,fun q hq=> ?_⟩
   cases q with
   |zero=>exact hu
   |succ q=>
    have:=h2 q (by simpa using hq)
    rw [←show o+1+q=o+(q+1) from by omega,this];rfl
 subst D4
 obtain⟨us,h1,h2⟩:=key (.str (sB n)::r) 0 fun q hq=>by
  obtain⟨u,hu,gp⟩:=iF q (by rw [Lc,hlen] at hq;exact hq)
  exact⟨u,by rw [Nz];exact hu,gp⟩
 cases us with
 |nil=>exact h1.elim
 |cons u us=>
  obtain⟨hu,hr⟩:=h1
  have mn:u=.string (sB n):=hu
  subst mn
  exact⟨⟨n,us,by rw [XV.length hr];exact hlen,G3 hr df⟩,rfl,⟨hu,hr⟩,fun q hq=>by
   have:=h2 q (by rw [Lc,hlen];exact hq)
   rw [Nz] at this
   exact this⟩
theorem UQ {P:Program} {ρ:Ren} (L:SlLaysF0.n6 P ρ) {α:Type} {k:Nat} (oG:0<k) (aE:∀w,(isAgg (ρ.t 24)).run P w=.ok true w) (zE:∀w,(Go.sizeOf (ρ.t 24)).run P w=.ok k w) {fs cf:FuncId} (vm:ρ.f 6=fs) (rp:Ja P fs) (vg:nX P cf k)
  (ty:TypeId) (c:α→List CV) (d0:α) (key:α→BS) (hc:∀x,∃r,c x=.str (sB (key x))::r∧r.length+1=k∧r.all CV.aX=true) (xs:List α) (hl:xs.length<4611686018427387904) (g:Nat):
  Fh P fs [(g,.cells ty (xs.length*k) (lf k c d0 xs))] [.c (.aO g k 0 xs.length),.c (.raw (.func (.func cf) #[] #[]))] (fun x h=>x=.aF []∧∃ys:List α,ys.Perm xs∧j4 key ys∧h=[(g,.cells ty (xs.length*k) (lf k c d0 ys))]):=by
 refine⟨rp,fun C vs hC bf ho hr=> ?_⟩
 match vs,hr with
 |[v1,v2],⟨h1,h2,_⟩=>
  obtain⟨c',rfl,jq,cE,_⟩:∃c',v1=.slice (some ⟨g,0,none⟩) xs.length c'∧xs.length≤c'∧c'≤maxLen∧Has C.w0 g (0+c'*k):=h1
  obtain rfl:v2=.func (.func cf) #[] #[]:=h2
  obtain⟨cs,hb,cn,hj⟩:=ho g _ (Lv.2 rfl)
  have bY:g<C.w0.heap.size:=(Array.getElem?_eq_some_iff.1 hb).1
  have vj:∀i:Fin xs.length,∃e:WA k,e.nm=key xs[i]∧XV C.S0 C.w0 (c xs[i]) e.enc∧∀q,q<k→cs[i.val*k+q]?=e.enc[q]?:=fun i=>by
   obtain⟨r,D4,hlen,df⟩:=hc xs[i]
   have iF:∀q,q<k→∃u,cs[i.val*k+q]?=some u∧XQ C.S0 C.w0 (ao (c xs[i]) q) u:=fun q hq=>by
    have aD:i.val*k+q<xs.length*k:=by
     have h3:(i.val+1)*k≤xs.length*k:=Nm k i.isLt
     rw [Nat.add_mul] at h3
     omega
    obtain⟨u,hu,gp⟩:=hj _ aD
    refine⟨u,hu,?_⟩
    have e:lf k c d0 xs (i.val*k+q)=ao (c xs[i]) q:=by
     rw [Q9 hq,Lg,Li i.isLt];rfl
    rw [←e];exact gp
   exact QuF oG D4 hlen df iF
  obtain⟨E,hE⟩:=Classical.skolem.1 vj
  let d:Array (WA k):=Array.ofFn E
  have mK:d.size=xs.length:=by simp [d]
  have vq:Inhabited (WA k):=⟨⟨[],List.replicate (k-1) (.bool false),by simp;omega,fun v hv=>by rw [List.mem_replicate] at hv;rw [hv.2];rfl⟩⟩
  have hH:HoldsK WA.enc k C.w0 g 0 d:=fun j bp=>by
   rw [size_flatK,mK] at bp
   have hq:j%k<k:=Nat.mod_lt _ oG
   have hi:j/k<xs.length:=(Nat.div_lt_iff_lt_mul oG).2 bp
   have pS:j/k*k+j%k=j:=by rw [Nc];exact Nat.div_add_mod j k
   have iG:d[j/k]! =E ⟨j/k,hi⟩:=by
    rw [getElem!_pos d (j/k) (by rw [mK];exact hi)]
    simp [d]
   have h3:=(hE ⟨j/k,hi⟩).2.2 (j%k) hq
   rw [show(⟨j/k,hi⟩:Fin xs.length).val=j/k from rfl,pS] at h3
   have hlen:(E ⟨j/k,hi⟩).enc.length=k:=(E ⟨j/k,hi⟩).len
   rw [get_flatK WA.enc k d j (by rw [mK];exact bp),iG,id]
   refine⟨?_,?_⟩
   ·unfold World.cell?
    simp only [hb,Option.isSome_none,Bool.false_eq_true,if_false,Nz]
    rw [h3,getElem!_pos _ (j%k) (by rw [hlen];exact hq),Li (by rw [hlen];exact hq)]
   ·unfold World.frozen?
    simp only [hb]
    simp
  have eg:∀args w,(callFunc cf args).run P w=.ok (.enter cf args) w:=fun args w=>(vg vq.default vq.default).1.run args w
  have gd:=AnyQ.slices_SortFunc L k aE zE WA.enc (fun x=>x.len) (fun x v hv=>by rcases Lb.1 hv with rfl|hv;rfl;exact x.one v hv) WA.cf WA.swo cf #[] g 0 c' d C.w0 eg (vg.E0 g 0 d.size C.w0) hH bY (by rw [mK];exact hl)
  rw [mK,vm] at gd
  refine gd.mono ?_
  rintro e w' ⟨rfl,d',n,os,hp,hs,rfl⟩
  obtain⟨ig,_,Ey⟩:=hp
  have rq:d'.size=xs.length:=by rw [ig,mK]
  have dJ:d'.toList.Perm d.toList:=by
   rw [←mK] at Ey
   have e1:d'.extract 0 d.size=d':=by rw [←ig];exact Array.extract_size
   have e2:d.extract 0 d.size=d:=Array.extract_size
   rw [e1,e2] at Ey
   exact Ey
  obtain⟨D,hD⟩:∃D:List (α×WA k),D=(List.finRange xs.length).map fun i=>(xs[i],E i):=⟨_,rfl⟩
  have hD1:D.map Prod.fst=xs:=by
   rw [hD,List.map_map]
   refine List.ext_getElem (by simp) fun i h1 h2=> ?_
   simp
  have hD2:D.map Prod.snd=d.toList:=by
   rw [hD,List.map_map]
   refine List.ext_getElem (by simp [d]) fun i h1 h2=> ?_
   simp [d]
  have DI:∀p∈D,p.2.nm=key p.1∧XV C.S0 C.w0 (c p.1) p.2.enc:=fun p hp=>by
   rw [hD] at hp
   obtain⟨i,_,rfl⟩:=List.mem_map.1 hp
   exact⟨(hE i).1,(hE i).2.1⟩
  obtain⟨D',pD,eD⟩:=Qnk (f:=Prod.snd) (l:=D) (m:=d'.toList) (by rw [hD2];exact dJ.symm)
  have p9:(D'.map Prod.fst).Perm xs:=by
   have:=pD.map Prod.fst
   rwa [hD1] at this
  have lD:D'.length=xs.length:=by rw [←p9.length_eq,Lw]
  have de:∀i,i<xs.length→∃p,p∈D'∧(D'.map Prod.fst).getD i d0=p.1∧d'[i]! =p.2:=fun i hi=>by
   have hi':i<D'.length:=by rw [lD];exact hi
   refine⟨D'[i],Le hi',?_,?_⟩
   ·rw [Lg,List.getElem?_map,Li hi'];rfl
   ·rw [getElem!_pos d' i (by rw [rq];exact hi),←Array.getElem_toList]
    have:d'.toList=D'.map Prod.snd:=eD.symm
    simp only [this,List.getElem_map]
  have EJ:j4 key (D'.map Prod.fst):=by
   unfold j4
   rw [List.pairwise_iff_getElem]
   intro i j hi hj P0
   rw [Lw,lD] at hi hj
   obtain⟨p,hp,p1,p2⟩:=de i hi
   obtain⟨q,hq,q1,q2⟩:=de j hj
   have h1:=hs i j (Lz _) P0 om
   rw [WA.lt,p2,q2,(DI p (pD.mem_iff.1 hp)).1,(DI q (pD.mem_iff.1 hq)).1] at h1
   rw [Lg,Li (by rw [Lw,lD];exact hi)] at p1
   rw [Lg,Li (by rw [Lw,lD];exact hj)] at q1
   have p1:(D'.map Prod.fst)[i]'(by rw [Lw,lD];exact hi)=p.1:=p1
   have q1:(D'.map Prod.fst)[j]'(by rw [Lw,lD];exact hj)=q.1:=q1
   rw [p1,q1];exact h1
  obtain⟨q1,q2,q3⟩:=Qp8 hb n (flatK WA.enc k d') os
  have hlen:(putCells id 0 (flatK WA.enc k d') cs).size=cs.size:=by simp [putCells]
  have DT:∀t b,C.S0 t b→b≠g:=fun t b hS e=>C.apart t b hS ((hC b).2 (by simp [Qa.keys,e]))
  have bd:Fr C.bO C.w0 (sortWorldK WA.enc k C.w0 g 0 n d' os):=by
   refine⟨rfl,rfl,rfl,q3,?_,fun b rn fX=>q2 b rn (fun e=>fX ((hC b).2 (by simp [Qa.keys,e]))),fun g' m' hh=> ?_⟩
   ·show C.w0.drawn≤C.w0.drawn+n
    omega
   ·by_cases e:g'=g
    ·subst e
     obtain⟨cI,we,⟨fr,dv⟩,eM⟩:=hh
     rw [hb] at dv
     injection dv with dv
     injection dv with e1 e2 e3
     subst e1
     exact⟨_,_,⟨_,q1⟩,by rw [hlen];exact eM⟩
    ·have hl:=hh.lt
     obtain⟨cI,we,⟨fr,dv⟩,eM⟩:=hh
     exact⟨cI,we,⟨fr,(q2 g' hl e).trans dv⟩,eM⟩
  have kp:Yn C.S0 (QH C [(g,.cells ty (xs.length*k) (lf k c d0 (D'.map Prod.fst)))] (sortWorldK WA.enc k C.w0 g 0 n d' os)) C.w0 (sortWorldK WA.enc k C.w0 g 0 n d' os):=
   ⟨fun t b hS=>⟨.inl hS,Ae (C.lt t b hS) q3,fun hm=>DT t b hS (by simpa [Qa.keys] using hm)⟩,fun t b hS=>q2 b (C.lt t b hS) (DT t b hS),bd.has⟩
  refine⟨.tuple #[],.aF [],[(g,.cells ty (xs.length*k) (lf k c d0 (D'.map Prod.fst)))],rfl,⟨rfl,D'.map Prod.fst,p9,EJ,rfl⟩,by simp [Qa.keys],fun g' ch=> ?_,⟨[],rfl,trivial⟩,fun g' o' lK=> ?_,bd⟩
  ·simp only [Qa.keys,Ld,List.map_nil,Lv] at ch
   subst ch
   exact .inl ((hC _).2 (by simp [Qa.keys]))
  ·rw [Lv] at lK
   injection lK with e1 e2
   subst e1 e2
   refine⟨putCells id 0 (flatK WA.enc k d') cs,q1,by rw [hlen];exact cn,fun j bp=> ?_⟩
   have hq:j%k<k:=Nat.mod_lt _ oG
   have hi:j/k<xs.length:=(Nat.div_lt_iff_lt_mul oG).2 bp
   obtain⟨p,hp,p1,p2⟩:=de _ hi
   have zt:j<cs.size:=Ae bp cn
   have hle:p.2.enc.length=k:=p.2.len
   refine⟨p.2.enc[j%k]'(by rw [hle];exact hq),?_,XQ.aT kp ?_⟩
   ·unfold putCells
    rw [Array.getElem?_mapIdx,Array.getElem?_eq_getElem zt,Option.map_some,iP ⟨Lz _,by rw [size_flatK,rq];omega⟩,Nat.sub_zero,get_flatK WA.enc k d' j (by rw [rq];exact bp),p2,getElem!_pos _ (j%k) (by rw [hle];exact hq)]
    rfl
   ·show XQ C.S0 C.w0 (ao (c ((D'.map Prod.fst).getD (j/k) d0)) (j%k)) _
    rw [p1]
    have hR:=(DI p (pD.mem_iff.1 hp)).2
    have bS:(c p.1).length=k:=by rw [←XV.length hR,hle]
    obtain⟨u,hu,gp⟩:=XV.get hR (j%k) ((c p.1)[j%k]'(by rw [bS];exact hq)) (Li (by rw [bS];exact hq))
    rw [Li (by rw [hle];exact hq)] at hu
    injection hu with hu
    rw [Mm (l:=c p.1) (j:=j%k) (by rw [bS];exact hq),hu]
    exact gp
end Go.AI
