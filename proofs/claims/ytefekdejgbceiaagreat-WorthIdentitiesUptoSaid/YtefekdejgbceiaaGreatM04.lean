/- Parts of one proof, laid by a program. -/
import Derived.Test.YtefekdejgbceiaaGreatM00
import Derived.Test.YtefekdejgbceiaaGreatM03
import Derived.Test.YtefekdejgbceiaaGreatProg
import Derived.KernelRfl
set_option linter.unusedSimpArgs false
set_option linter.unusedVariables false
set_option maxRecDepth 100000
set_option maxHeartbeats 12800000
namespace Go.AI
structure Hold (X:Prop):Prop where
 out:X
theorem o0:True:=True.intro
theorem oj {a b:Prop} (x:a) (y:b):a∧b:=⟨x,y⟩
theorem yG {F X G:Prop} (f:F) (x:X) (k:F→Hold X→G:=by intro f x;(repeat first|apply wa1|apply wa2|apply wa3|apply wa4|apply wa5 rfl|apply wa6|apply wa7|(refine wb1 rfl fun R r=>?_;simp only[go_sem,f];with_reducible show R (some _);with_reducible refine r _ _ ?_;clear r R)|apply wa8|(refine wd1 rfl fun R r=>?_;simp only[go_sem,f];with_reducible show R (some _);with_reducible refine r _ _ ?_;clear r R)|apply wc2|(refine wc1 rfl rfl fun R r=>?_;simp only[go_sem,f];with_reducible show R (some _);with_reducible refine r _ _ ?_;clear r R));exact x.out):G:=k f ⟨x⟩
theorem xG {X G:Prop} (x:X) (k:Hold X→G:=by intro x;(repeat first|apply wa1|apply wa2|apply wa3|apply wa4|apply wa5 rfl|apply wa6|apply wa7|(refine wb1 rfl fun R r=>?_;simp only[go_sem];with_reducible show R (some _);with_reducible refine r _ _ ?_;clear r R)|apply wa8|(refine wd1 rfl fun R r=>?_;simp only[go_sem];with_reducible show R (some _);with_reducible refine r _ _ ?_;clear r R)|apply wc2|(refine wc1 rfl rfl fun R r=>?_;simp only[go_sem];with_reducible show R (some _);with_reducible refine r _ _ ?_;clear r R));exact x.out):G:=k ⟨x⟩
theorem yH {F X G:Prop} (f:F) (x:X) (k:F→Hold X→G:=by intro f x;(repeat first|apply wa7|(refine wb1 rfl fun R r=>?_;simp only[go_sem,f];with_reducible show R (some _);with_reducible refine r _ _ ?_;clear r R)|apply wa8|(refine wd1 rfl fun R r=>?_;simp only[go_sem,f];with_reducible show R (some _);with_reducible refine r _ _ ?_;clear r R)|apply wc2|(refine wc1 rfl rfl fun R r=>?_;simp only[go_sem,f];with_reducible show R (some _);with_reducible refine r _ _ ?_;clear r R));exact x.out):G:=k f ⟨x⟩
theorem xH {X G:Prop} (x:X) (k:Hold X→G:=by intro x;(repeat first|apply wa7|(refine wb1 rfl fun R r=>?_;simp only[go_sem];with_reducible show R (some _);with_reducible refine r _ _ ?_;clear r R)|apply wa8|(refine wd1 rfl fun R r=>?_;simp only[go_sem];with_reducible show R (some _);with_reducible refine r _ _ ?_;clear r R)|apply wc2|(refine wc1 rfl rfl fun R r=>?_;simp only[go_sem];with_reducible show R (some _);with_reducible refine r _ _ ?_;clear r R));exact x.out):G:=k ⟨x⟩
theorem yI {F X G:Prop} (f:F) (x:X) (k:F→Hold X→G:=by intro f x;(repeat first|apply wa1|apply wa3|apply wa4|apply wa5 rfl|apply wa6|apply wa7|(refine wb1 rfl fun R r=>?_;simp only[go_sem,f];with_reducible show R (some _);with_reducible refine r _ _ ?_;clear r R)|apply wa8|(refine wd1 rfl fun R r=>?_;simp only[go_sem,f];with_reducible show R (some _);with_reducible refine r _ _ ?_;clear r R)|apply wc2|(refine wc1 rfl rfl fun R r=>?_;simp only[go_sem,f];with_reducible show R (some _);with_reducible refine r _ _ ?_;clear r R));exact x.out):G:=k f ⟨x⟩
theorem xI {X G:Prop} (x:X) (k:Hold X→G:=by intro x;(repeat first|apply wa1|apply wa3|apply wa4|apply wa5 rfl|apply wa6|apply wa7|(refine wb1 rfl fun R r=>?_;simp only[go_sem];with_reducible show R (some _);with_reducible refine r _ _ ?_;clear r R)|apply wa8|(refine wd1 rfl fun R r=>?_;simp only[go_sem];with_reducible show R (some _);with_reducible refine r _ _ ?_;clear r R)|apply wc2|(refine wc1 rfl rfl fun R r=>?_;simp only[go_sem];with_reducible show R (some _);with_reducible refine r _ _ ?_;clear r R));exact x.out):G:=k ⟨x⟩
theorem yO {F X G:Prop} (f:F) (x:X) (k:F→Hold X→G:=by intro f x;(first|(refine wb1 rfl fun R r=>?_;simp only[go_sem,f];with_reducible show R (some _);with_reducible refine r _ _ ?_;clear r R)|(refine wd1 rfl fun R r=>?_;simp only[go_sem,f];with_reducible show R (some _);with_reducible refine r _ _ ?_;clear r R)|apply wc2|(refine wc1 rfl rfl fun R r=>?_;simp only[go_sem,f];with_reducible show R (some _);with_reducible refine r _ _ ?_;clear r R));exact x.out):G:=k f ⟨x⟩
theorem xO {X G:Prop} (x:X) (k:Hold X→G:=by intro x;(first|(refine wb1 rfl fun R r=>?_;simp only[go_sem];with_reducible show R (some _);with_reducible refine r _ _ ?_;clear r R)|(refine wd1 rfl fun R r=>?_;simp only[go_sem];with_reducible show R (some _);with_reducible refine r _ _ ?_;clear r R)|apply wc2|(refine wc1 rfl rfl fun R r=>?_;simp only[go_sem];with_reducible show R (some _);with_reducible refine r _ _ ?_;clear r R));exact x.out):G:=k ⟨x⟩
theorem yS {F X G:Prop} (f:F) (x:X) (k:F→Hold X→G:=by intro f x;(try simp only[go_sem,f]);exact x.out):G:=k f ⟨x⟩
theorem xS {X G:Prop} (x:X) (k:Hold X→G:=by intro x;(try simp only[go_sem]);exact x.out):G:=k ⟨x⟩
theorem yT {F X G C:Prop} (c:C) (f:F) (x:X) (k:C→F→Hold X→G:=by intro c f x;refine aw_retq c rfl fun R r=>?_;simp only[go_sem,f];refine r _ rfl ?_;clear r R;exact x.out):G:=k c f ⟨x⟩
theorem xT {X G C:Prop} (c:C) (x:X) (k:C→Hold X→G:=by intro c x;refine aw_retq c rfl fun R r=>?_;simp only[go_sem];refine r _ rfl ?_;clear r R;exact x.out):G:=k c ⟨x⟩
theorem yU {F X G:Prop} (f:F) (x:X) (k:F→Hold X→G:=by intro f x;refine aw_rethq rfl fun R r=>?_;simp only[go_sem,f];refine r _ rfl ?_;clear r R;exact x.out):G:=k f ⟨x⟩
theorem xU {X G:Prop} (x:X) (k:Hold X→G:=by intro x;refine aw_rethq rfl fun R r=>?_;simp only[go_sem];refine r _ rfl ?_;clear r R;exact x.out):G:=k ⟨x⟩
theorem yV {F X G:Prop} (f:F) (x:X) (k:F→Hold X→G:=by intro f x;refine aw_endhq rfl fun R r=>?_;simp only[go_sem,f];refine r _ rfl ?_;clear r R;exact x.out):G:=k f ⟨x⟩
theorem xV {X G:Prop} (x:X) (k:Hold X→G:=by intro x;refine aw_endhq rfl fun R r=>?_;simp only[go_sem];refine r _ rfl ?_;clear r R;exact x.out):G:=k ⟨x⟩
theorem zE {F P:Prop} (f:F) (k:F→P:=by intro f;simp only[go_sem,f]<;>rfl):P:=k f
theorem eE {P:Prop} (k:P:=by simp only[go_sem]<;>rfl):P:=k
theorem zB {F P:Prop} (f:F) (k:F→P:=by intro f;simp only[go_sem,f]<;>and_intros<;>first|exact True.intro|(with_reducible rfl)|exact c_int om|rfl):P:=k f
theorem eB {P:Prop} (k:P:=by simp only[go_sem]<;>and_intros<;>first|exact True.intro|(with_reducible rfl)|exact c_int om|rfl):P:=k
theorem zZ {α:Type} {l:List α}:l.Sublist l:=List.Sublist.refl l
theorem zL {F P:Prop} (f:F) (k:F→P:=by intro f;first|exact True.intro|simp only[go_sem,f]<;>and_intros<;>first|exact True.intro|exact .c (.refl _)|exact .c wl2|exact .agg (lel_refl _)|exact .agg (by simp only[LeL];and_intros<;>first|exact True.intro|exact .refl _|exact wl2)|exact .c .nils):P:=k f
theorem eL {P:Prop} (k:P:=by first|exact True.intro|simp only[go_sem]<;>and_intros<;>first|exact True.intro|exact .c (.refl _)|exact .c wl2|exact .agg (lel_refl _)|exact .agg (by simp only[LeL];and_intros<;>first|exact True.intro|exact .refl _|exact wl2)|exact .c .nils):P:=k
section
variable {E : Env} {K : List It} {σ : Sl} {h : Heap} {all l rest : List Oper} {o : Oper} {F : Prop}
theorem yC {f:FuncId} {xs:List Operand} {ts:Array TypeId} {args:List AV} {r:AV} {X:Prop} (q:F) (hf:Fa E.P f args r) (x:X) (hop:o.op=.call {callee:=.value (.func f),args:=xs.toArray,argTypes:=ts}:=by exact rfl) (hw:wantA all σ o=some true:=by exact rfl) (hd:dstOk E.N o.dst=true:=by exact rfl)
 (le:F→LeA h (xs.map (ev σ)) args:=by intro f;first|exact True.intro|simp only[go_sem,f]<;>and_intros<;>first|exact True.intro|exact .c (.refl _)|exact .c wl2|exact .agg (lel_refl _)|exact .agg (by simp only[LeL];and_intros<;>first|exact True.intro|exact .refl _|exact wl2)|exact .c .nils) (k:F→Hold X→aw E (.ops all rest::K) (σ.setO o.dst r) h:=by intro f x;(try simp only[go_sem,f]);exact x.out):aw E (.ops all (o::rest)::K) σ h:=aw_callq hf hop hw hd (le q) (k q ⟨x⟩)
theorem xC {f:FuncId} {xs:List Operand} {ts:Array TypeId} {args:List AV} {r:AV} {X:Prop} (hf:Fa E.P f args r) (x:X) (hop:o.op=.call {callee:=.value (.func f),args:=xs.toArray,argTypes:=ts}:=by exact rfl) (hw:wantA all σ o=some true:=by exact rfl) (hd:dstOk E.N o.dst=true:=by exact rfl)
 (le:LeA h (xs.map (ev σ)) args:=by first|exact True.intro|simp only[go_sem]<;>and_intros<;>first|exact True.intro|exact .c (.refl _)|exact .c wl2|exact .agg (lel_refl _)|exact .agg (by simp only[LeL];and_intros<;>first|exact True.intro|exact .refl _|exact wl2)|exact .c .nils) (k:Hold X→aw E (.ops all rest::K) (σ.setO o.dst r) h:=by intro x;(try simp only[go_sem]);exact x.out):aw E (.ops all (o::rest)::K) σ h:=aw_callq hf hop hw hd le (k ⟨x⟩)
theorem yD {f:FuncId} {xs:List Operand} {ts:Array TypeId} {args:List AV} {r:AV} {n:Nat} {X:Prop} (q:F) (hf:Fa E.P f args r) (x:X) (hop:o.op=.call {callee:=.value (.func f),args:=xs.toArray,argTypes:=ts}:=by exact rfl) (hw:wantA l σ o=some true:=by exact rfl) (hd:dstOk E.N o.dst=true:=by exact rfl)
 (le:F→LeA h (xs.map (ev σ)) args:=by intro f;first|exact True.intro|simp only[go_sem,f]<;>and_intros<;>first|exact True.intro|exact .c (.refl _)|exact .c wl2|exact .agg (lel_refl _)|exact .agg (by simp only[LeL];and_intros<;>first|exact True.intro|exact .refl _|exact wl2)|exact .c .nils) (k:F→Hold X→DrK E h l K n rest (σ.setO o.dst r):=by intro f x;(try simp only[go_sem,f]);exact x.out):DrK E h l K (n+1) (o::rest) σ:=drk_call hf hop hw hd (le q) (k q ⟨x⟩)
theorem xD {f:FuncId} {xs:List Operand} {ts:Array TypeId} {args:List AV} {r:AV} {n:Nat} {X:Prop} (hf:Fa E.P f args r) (x:X) (hop:o.op=.call {callee:=.value (.func f),args:=xs.toArray,argTypes:=ts}:=by exact rfl) (hw:wantA l σ o=some true:=by exact rfl) (hd:dstOk E.N o.dst=true:=by exact rfl)
 (le:LeA h (xs.map (ev σ)) args:=by first|exact True.intro|simp only[go_sem]<;>and_intros<;>first|exact True.intro|exact .c (.refl _)|exact .c wl2|exact .agg (lel_refl _)|exact .agg (by simp only[LeL];and_intros<;>first|exact True.intro|exact .refl _|exact wl2)|exact .c .nils) (k:Hold X→DrK E h l K n rest (σ.setO o.dst r):=by intro x;(try simp only[go_sem]);exact x.out):DrK E h l K (n+1) (o::rest) σ:=drk_call hf hop hw hd le (k ⟨x⟩)
theorem yB {t:TypeId} {y:Operand} {v:AV} {X N:Nat→Prop} (q:F) (x:∀g,N g→X g) (hop:o.op=.box t y:=by exact rfl) (hw:wantA all σ o=some true:=by exact rfl) (hd:dstOk E.N o.dst=true:=by exact rfl) (hx:F→ev σ y=v:=by intro f;simp only[go_sem,f]<;>rfl) (hnt:∀xs,v≠.tup xs:=by exact fun _ e=>by cases e) (hs:v.cells.all CV.solid=true:=by first|exact rfl|exact solid_gs3)
  (hn:∀g,g∉h.keys→N g:=by intro g h;replace h:=Heap.ne_of h;(first|dsimp only [Heap.ne,gh] at h|dsimp only [Heap.ne] at h|skip);exact h) (k:F→∀g,N g→Hold (X g)→aw E (.ops all rest::K) (σ.setO o.dst (.c (.optr g 0))) ((g,.cells t v.cells.length (ofL v.cells))::h):=by intro f g e x;(try simp only[go_sem,f,e]);exact x.out):aw E (.ops all (o::rest)::K) σ h:=
 aw_box hop hw hd (hx q) hnt hs fun g hg=>k q g (hn g hg) ⟨x g (hn g hg)⟩
theorem xB {t:TypeId} {y:Operand} {v:AV} {X N:Nat→Prop} (x:∀g,N g→X g) (hop:o.op=.box t y:=by exact rfl) (hw:wantA all σ o=some true:=by exact rfl) (hd:dstOk E.N o.dst=true:=by exact rfl) (hx:ev σ y=v:=by simp only[go_sem]<;>rfl) (hnt:∀xs,v≠.tup xs:=by exact fun _ e=>by cases e) (hs:v.cells.all CV.solid=true:=by first|exact rfl|exact solid_gs3)
  (hn:∀g,g∉h.keys→N g:=by intro g h;replace h:=Heap.ne_of h;(first|dsimp only [Heap.ne,gh] at h|dsimp only [Heap.ne] at h|skip);exact h) (k:∀g,N g→Hold (X g)→aw E (.ops all rest::K) (σ.setO o.dst (.c (.optr g 0))) ((g,.cells t v.cells.length (ofL v.cells))::h):=by intro g e x;(try simp only[go_sem,e]);exact x.out):aw E (.ops all (o::rest)::K) σ h:=
 aw_box hop hw hd hx hnt hs fun g hg=>k g (hn g hg) ⟨x g (hn g hg)⟩
theorem yA {t:TypeId} {z:List CV} {X N:Nat→Prop} (q:F) (x:∀g,N g→X g) (hop:o.op=.alloc t:=by exact rfl) (hw:wantA all σ o=some true:=by exact rfl) (hd:dstOk E.N o.dst=true:=by exact rfl) (hz:F→tZero E.P t=some z:=by intro f;simp only[go_sem,f]<;>rfl)
  (hn:∀g,g∉h.keys→N g:=by intro g h;replace h:=Heap.ne_of h;(first|dsimp only [Heap.ne,gh] at h|dsimp only [Heap.ne] at h|skip);exact h) (k:F→∀g,N g→Hold (X g)→aw E (.ops all rest::K) (σ.setO o.dst (.c (.optr g 0))) ((g,.cells t z.length (ofL z))::h):=by intro f g e x;(try simp only[go_sem,f,e]);exact x.out):aw E (.ops all (o::rest)::K) σ h:=
 aw_alloc hop hw hd (hz q) fun g hg=>k q g (hn g hg) ⟨x g (hn g hg)⟩
theorem xA {t:TypeId} {z:List CV} {X N:Nat→Prop} (x:∀g,N g→X g) (hop:o.op=.alloc t:=by exact rfl) (hw:wantA all σ o=some true:=by exact rfl) (hd:dstOk E.N o.dst=true:=by exact rfl) (hz:tZero E.P t=some z:=by simp only[go_sem]<;>rfl)
  (hn:∀g,g∉h.keys→N g:=by intro g h;replace h:=Heap.ne_of h;(first|dsimp only [Heap.ne,gh] at h|dsimp only [Heap.ne] at h|skip);exact h) (k:∀g,N g→Hold (X g)→aw E (.ops all rest::K) (σ.setO o.dst (.c (.optr g 0))) ((g,.cells t z.length (ofL z))::h):=by intro g e x;(try simp only[go_sem,e]);exact x.out):aw E (.ops all (o::rest)::K) σ h:=
 aw_alloc hop hw hd hz fun g hg=>k g (hn g hg) ⟨x g (hn g hg)⟩
theorem yW {t g off m n:Nat} {ty:TypeId} {ag:Bool} {fc:Nat→CV} {a y:Operand} {v:AV} {h':Heap} (q:F) (k:aw E (.ops all rest::K) σ h') (hop:o.op=.store t a y:=by exact rfl) (hw:wantA all σ o=some true:=by exact rfl) (hd:dstOk E.N o.dst=true:=by exact rfl) (hdn:o.dst=none:=by exact rfl) (ha:F→ev σ a=.c (.optr g off):=by intro f;simp only[go_sem,f]<;>rfl) (hx:F→ev σ y=v:=by intro f;simp only[go_sem,f]<;>rfl)
 (hg:F→h.get g=some (.cells ty m fc):=by intro f;simp only[go_sem,f]<;>rfl) (ht:F→tSz E.P t=some (ag,n):=by intro f;simp only[go_sem,f]<;>rfl) (hnt:∀xs,v≠.tup xs:=by exact fun _ e=>by cases e) (hs:v.cells.all CV.solid=true:=by first|rfl|exact solid_gs3) (hlen:v.cells.length=n:=by rfl) (hle:off+n≤m:=by first|omega|simp)
 (hh:h.set g (.cells ty m (updF fc off v.cells))=h':=by exact rfl):aw E (.ops all (o::rest)::K) σ h:=aw_store hop hw hd hdn (ha q) (hx q) (hg q) (ht q) hnt hs hlen hle hh k
theorem xW {t g off m n:Nat} {ty:TypeId} {ag:Bool} {fc:Nat→CV} {a y:Operand} {v:AV} {h':Heap} (k:aw E (.ops all rest::K) σ h') (hop:o.op=.store t a y:=by exact rfl) (hw:wantA all σ o=some true:=by exact rfl) (hd:dstOk E.N o.dst=true:=by exact rfl) (hdn:o.dst=none:=by exact rfl) (ha:ev σ a=.c (.optr g off):=by simp only[go_sem]<;>rfl) (hx:ev σ y=v:=by simp only[go_sem]<;>rfl)
 (hg:h.get g=some (.cells ty m fc):=by simp only[go_sem]<;>rfl) (ht:tSz E.P t=some (ag,n):=by simp only[go_sem]<;>rfl) (hnt:∀xs,v≠.tup xs:=by exact fun _ e=>by cases e) (hs:v.cells.all CV.solid=true:=by first|rfl|exact solid_gs3) (hlen:v.cells.length=n:=by rfl) (hle:off+n≤m:=by first|omega|simp)
 (hh:h.set g (.cells ty m (updF fc off v.cells))=h':=by exact rfl):aw E (.ops all (o::rest)::K) σ h:=aw_store hop hw hd hdn ha hx hg ht hnt hs hlen hle hh k
theorem yF {t:Nat} {y z:Code} {b:Bool} (q:F) (k1:b=true→aw E (.code y::K) σ h) (k2:b=false→aw E (.code z::K) σ h) (hb:F→σ.get t=.c (.bool b):=by intro f;simp only[go_sem,f]<;>rfl):aw E (.code (.cond (.tmp t) y z)::K) σ h:=aw_cond (hb q) k1 k2
theorem xF {t:Nat} {y z:Code} {b:Bool} (k1:b=true→aw E (.code y::K) σ h) (k2:b=false→aw E (.code z::K) σ h) (hb:σ.get t=.c (.bool b):=by simp only[go_sem]<;>rfl):aw E (.code (.cond (.tmp t) y z)::K) σ h:=aw_cond hb k1 k2
theorem yP {t:Nat} {y z:Code} (q:F) (k:aw E (.code y::K) σ h) (hb:F→σ.get t=.c (.bool true):=by intro f;simp only[go_sem,f]<;>rfl):aw E (.code (.cond (.tmp t) y z)::K) σ h:=aw_condT (hb q) k
theorem xP {t:Nat} {y z:Code} (k:aw E (.code y::K) σ h) (hb:σ.get t=.c (.bool true):=by simp only[go_sem]<;>rfl):aw E (.code (.cond (.tmp t) y z)::K) σ h:=aw_condT hb k
theorem yN {t:Nat} {y z:Code} (q:F) (k:aw E (.code z::K) σ h) (hb:F→σ.get t=.c (.bool false):=by intro f;simp only[go_sem,f]<;>rfl):aw E (.code (.cond (.tmp t) y z)::K) σ h:=aw_condF (hb q) k
theorem xN {t:Nat} {y z:Code} (k:aw E (.code z::K) σ h) (hb:σ.get t=.c (.bool false):=by simp only[go_sem]<;>rfl):aw E (.code (.cond (.tmp t) y z)::K) σ h:=aw_condF hb k
end
end Go.AI
namespace Go.AI
theorem xGT {X G C:Prop} (c:C) (x:X) (k:C→Hold X→G:=by intro c x;refine xG ?_;refine xT c ?_;exact x.out):G:=k c ⟨x⟩
theorem xGU {X G:Prop} (x:X) (k:Hold X→G:=by intro x;refine xG ?_;refine xU ?_;exact x.out):G:=k ⟨x⟩
theorem xSG {X G:Prop} (x:X) (k:Hold X→G:=by intro x;refine xS ?_;refine xG ?_;exact x.out):G:=k ⟨x⟩
theorem xSGT {X G C:Prop} (c:C) (x:X) (k:C→Hold X→G:=by intro c x;refine xS ?_;refine xG ?_;refine xT c ?_;exact x.out):G:=k c ⟨x⟩
theorem xSGU {X G:Prop} (x:X) (k:Hold X→G:=by intro x;refine xS ?_;refine xG ?_;refine xU ?_;exact x.out):G:=k ⟨x⟩
theorem yGNG {F X G:Prop} (f:F) (x:X) (k:F→Hold X→G:=by intro f x;refine yG f ?_;refine yN f ?_;refine yG f ?_;exact x.out):G:=k f ⟨x⟩
theorem yGPG {F X G:Prop} (f:F) (x:X) (k:F→Hold X→G:=by intro f x;refine yG f ?_;refine yP f ?_;refine yG f ?_;exact x.out):G:=k f ⟨x⟩
theorem yGPGT {F X G C:Prop} (c:C) (f:F) (x:X) (k:C→F→Hold X→G:=by intro c f x;refine yG f ?_;refine yP f ?_;refine yG f ?_;refine yT c f ?_;exact x.out):G:=k c f ⟨x⟩
theorem yGPGU {F X G:Prop} (f:F) (x:X) (k:F→Hold X→G:=by intro f x;refine yG f ?_;refine yP f ?_;refine yG f ?_;refine yU f ?_;exact x.out):G:=k f ⟨x⟩
theorem yGT {F X G C:Prop} (c:C) (f:F) (x:X) (k:C→F→Hold X→G:=by intro c f x;refine yG f ?_;refine yT c f ?_;exact x.out):G:=k c f ⟨x⟩
theorem yGWS {F X G:Prop} (f:F) (x:X) (k:F→Hold X→G:=by intro f x;refine yG f ?_;refine yW f ?_;refine yS f ?_;exact x.out):G:=k f ⟨x⟩
theorem yGWSG {F X G:Prop} (f:F) (x:X) (k:F→Hold X→G:=by intro f x;refine yG f ?_;refine yW f ?_;refine yS f ?_;refine yG f ?_;exact x.out):G:=k f ⟨x⟩
theorem yGWSGNG {F X G:Prop} (f:F) (x:X) (k:F→Hold X→G:=by intro f x;refine yG f ?_;refine yW f ?_;refine yS f ?_;refine yG f ?_;refine yN f ?_;refine yG f ?_;exact x.out):G:=k f ⟨x⟩
theorem yGWSGT {F X G C:Prop} (c:C) (f:F) (x:X) (k:C→F→Hold X→G:=by intro c f x;refine yG f ?_;refine yW f ?_;refine yS f ?_;refine yG f ?_;refine yT c f ?_;exact x.out):G:=k c f ⟨x⟩
theorem ySG {F X G:Prop} (f:F) (x:X) (k:F→Hold X→G:=by intro f x;refine yS f ?_;refine yG f ?_;exact x.out):G:=k f ⟨x⟩
theorem ySGNG {F X G:Prop} (f:F) (x:X) (k:F→Hold X→G:=by intro f x;refine yS f ?_;refine yG f ?_;refine yN f ?_;refine yG f ?_;exact x.out):G:=k f ⟨x⟩
theorem ySGT {F X G C:Prop} (c:C) (f:F) (x:X) (k:C→F→Hold X→G:=by intro c f x;refine yS f ?_;refine yG f ?_;refine yT c f ?_;exact x.out):G:=k c f ⟨x⟩
theorem ySGWS {F X G:Prop} (f:F) (x:X) (k:F→Hold X→G:=by intro f x;refine yS f ?_;refine yG f ?_;refine yW f ?_;refine yS f ?_;exact x.out):G:=k f ⟨x⟩
theorem ySGWSG {F X G:Prop} (f:F) (x:X) (k:F→Hold X→G:=by intro f x;refine yS f ?_;refine yG f ?_;refine yW f ?_;refine yS f ?_;refine yG f ?_;exact x.out):G:=k f ⟨x⟩
end Go.AI
namespace Go.Proofs.YtefekdejgbceiaaGreat
open Go.AI
@[go_sem] theorem ty_e_ws:tElem Tryz.prog 39=some (139,1,4):=by kernel_rfl
@[go_sem] theorem ty_s_u32:tSz Tryz.prog 139=some (false,1):=by kernel_rfl
@[go_sem] theorem ty_z_u32:tZero Tryz.prog 139=some [.int .u32 0]:=by kernel_rfl
@[go_sem] theorem ty_i_u32:tInt Tryz.prog 139=some .u32:=by kernel_rfl
@[go_sem] theorem ty_i_u64:tInt Tryz.prog 143=some .u64:=by kernel_rfl
@[go_sem] theorem ty_i_int:tInt Tryz.prog 3=some .i64:=by kernel_rfl
@[go_sem] theorem ty_b_bool:tBool Tryz.prog 4=true:=by kernel_rfl
@[go_sem] theorem ty_i_err:tInt Tryz.prog 50=some .i64:=by kernel_rfl
@[go_sem] theorem ty_f_err:tIfc Tryz.prog 33=true:=by kernel_rfl
@[go_sem] theorem ty_mixed:Tryz.prog.follows .mixedOrders=true:=by kernel_rfl
end Go.Proofs.YtefekdejgbceiaaGreat
namespace Go.PN
def val:List Nat→Nat
 |[]=>0
 |x::xs=>x+4294967296*val xs
def words (n:Nat):List Nat:=if h:n=0 then [] else n%4294967296::words (n/4294967296)
termination_by n
decreasing_by omega
theorem words_zero:words 0=[]:=by rw [words];simp
theorem words_cons {n:Nat} (h:n≠0):words n=n%4294967296::words (n/4294967296):=by rw [words];simp [h]
theorem words_mk {x v:Nat} (hx:x<4294967296) (h:x≠0∨v≠0):words (x+4294967296*v)=x::words v:=by
 rw [words_cons om]
 congr 1
 ·omega
 ·congr 1;omega
theorem val_words (n:Nat):val (words n)=n:=by
 induction n using Nat.strongRecOn with
 |ind n ih=>
  by_cases h:n=0
  ·subst h;rw [words_zero];rfl
  ·rw [words_cons h,val,ih _ om];omega
theorem words_lt (n:Nat):∀x∈words n,x<4294967296:=by
 induction n using Nat.strongRecOn with
 |ind n ih=>
  by_cases h:n=0
  ·subst h;rw [words_zero];simp
  ·rw [words_cons h]
   intro x hx
   simp only [List.mem_cons] at hx
   rcases hx with rfl|hx
   ·omega
   ·exact ih _ om x hx
theorem words_eq_nil {n:Nat}:words n=[]↔n=0:=by
 constructor
 ·intro h
  have:=val_words n
  rw [h] at this
  exact this.symm
 ·rintro rfl;exact words_zero
theorem words_inj {a b:Nat} (h:words a=words b):a=b:=by rw [←val_words a,h,val_words]
theorem val_zero {xs:List Nat} (h:∀x∈xs,x=0):val xs=0:=by
 induction xs with
 |nil=>rfl
 |cons x xs ih=>rw [val,ih (fun y hy=>h y (by simp [hy])),h x (by simp)]
theorem trim_eq:∀(xs:List Nat) (n:Nat),(∀x∈xs,x<4294967296)→n≤xs.length→(∀j,n≤j→xs.getD j 0=0)→(n=0∨xs.getD (n-1) 0≠0)→words (val xs)=xs.take n
 |[],n,_,hn,_,_=>by simp at hn;subst hn;simp [val,words_zero]
 |x::xs,0,hx,_,hz,_=>by
  have:val (x::xs)=0:=val_zero (fun y hy=>by
   obtain⟨j,hj,rfl⟩:=List.getElem_of_mem hy
   have:=hz j (Nat.zero_le _)
   rw [List.getD_eq_getElem?_getD,List.getElem?_eq_getElem hj] at this
   exact this)
  rw [this,words_zero];rfl
 |x::xs,n+1,hx,hn,hz,hl=>by
  have hx0:x<4294967296:=hx x (by simp)
  have ih:=trim_eq xs n (fun y hy=>hx y (by simp [hy])) (by simpa using hn) (fun j hj=>by simpa using hz (j+1) om) (by
   cases n with
   |zero=>exact .inl rfl
   |succ n=>right;simpa using hl.resolve_left om)
  rw [val,words_mk hx0,ih]
  ·rfl
  ·cases n with
   |zero=>left;simpa using hl.resolve_left om
   |succ n=>
    right
    intro h0
    rw [h0,words_zero] at ih
    have:=congrArg List.length ih
    simp at this hn
    omega
def Plain (xs:List Nat):Prop:=xs=[]∨xs.getD (xs.length-1) 0≠0
theorem words_val {xs:List Nat} (hx:∀x∈xs,x<4294967296) (hp:Plain xs):words (val xs)=xs:=by
 have:=trim_eq xs xs.length hx (Nat.le_refl _) (fun j hj=>by rw [List.getD_eq_getElem?_getD,List.getElem?_eq_none hj];rfl) (by
  rcases hp with rfl|hp
  ·left;rfl
  ·exact .inr hp)
 rwa [List.take_length] at this
theorem words_plain (n:Nat):Plain (words n):=by
 induction n using Nat.strongRecOn with
 |ind n ih=>
  by_cases h:n=0
  ·subst h;left;exact words_zero
  ·right
   rw [words_cons h]
   by_cases h2:n/4294967296=0
   ·rw [h2,words_zero];simp;omega
   ·have:=ih _ (by omega:n/4294967296<n)
    rcases this with e|e
    ·rw [words_eq_nil] at e;exact absurd e h2
    ·have hl:0<(words (n/4294967296)).length:=by
      rcases Nat.eq_zero_or_pos (words (n/4294967296)).length with h0|h0
      ·rw [List.length_eq_zero_iff,words_eq_nil] at h0;exact absurd h0 h2
      ·exact h0
     rw [List.length_cons,show(words (n/4294967296)).length+1-1=((words (n/4294967296)).length-1)+1 from by omega]
     simpa using e
theorem val_lt:∀(xs:List Nat),(∀x∈xs,x<4294967296)→val xs<4294967296^xs.length
 |[],_=>by simp [val]
 |x::xs,hx=>by
  have h1:=val_lt xs (fun y hy=>hx y (by simp [hy]))
  have h2:=hx x (by simp)
  rw [val,List.length_cons,Nat.pow_succ]
  omega
theorem val_append (xs ys:List Nat):val (xs++ys)=val xs+4294967296^xs.length*val ys:=by
 induction xs with
 |nil=>simp [val]
 |cons x xs ih=>rw [List.cons_append,val,val,ih,List.length_cons,Nat.pow_succ,Nat.mul_add,←Nat.add_assoc,←Nat.mul_assoc,Nat.mul_comm 4294967296 (4294967296^xs.length)]
theorem getD_lt {xs:List Nat} (hx:∀x∈xs,x<4294967296) (i:Nat):xs.getD i 0<4294967296:=by
 rw [List.getD_eq_getElem?_getD]
 cases h:xs[i]? with
 |none=>simp
 |some x=>exact hx x (List.mem_of_getElem? h)
theorem getD_ge {xs:List Nat} {i:Nat} (h:xs.length≤i):xs.getD i 0=0:=by
 rw [List.getD_eq_getElem?_getD,List.getElem?_eq_none h];rfl
theorem getD_take {xs:List Nat} {n j:Nat} (h:j<n):(xs.take n).getD j 0=xs.getD j 0:=by
 rw [List.getD_eq_getElem?_getD,List.getD_eq_getElem?_getD,List.getElem?_take,if_pos h]
theorem val_take_succ (xs:List Nat) (i:Nat):val (xs.take (i+1))=val (xs.take i)+4294967296^i*xs.getD i 0:=by
 by_cases h:i<xs.length
 ·rw [List.take_succ_eq_append_getElem h,val_append,List.getD_eq_getElem?_getD,List.getElem?_eq_getElem h]
  simp [val,List.length_take,Nat.min_eq_left (Nat.le_of_lt h)]
 ·rw [getD_ge om,List.take_of_length_le om,List.take_of_length_le om];simp
theorem take_set (zs:List Nat) (i v:Nat):(zs.set i v).take i=zs.take i:=by
 apply List.ext_getElem?
 intro j
 simp only [List.getElem?_take]
 by_cases h:j<i
 ·rw [if_pos h,if_pos h,List.getElem?_set_ne om]
 ·rw [if_neg h,if_neg h]
theorem getD_set {zs:List Nat} {i v:Nat} (h:i<zs.length):(zs.set i v).getD i 0=v:=by
 simp [List.getD_eq_getElem?_getD,h]
theorem val_set_take {zs:List Nat} {i v:Nat} (h:i<zs.length):val ((zs.set i v).take (i+1))=val (zs.take i)+4294967296^i*v:=by
 rw [val_take_succ,take_set,getD_set h]
theorem val_replicate (n:Nat):val (List.replicate n 0)=0:=val_zero (fun x hx=>(List.mem_replicate.1 hx).2)
theorem set_lt {zs:List Nat} {i v:Nat} (hz:∀x∈zs,x<4294967296) (hv:v<4294967296):∀x∈zs.set i v,x<4294967296:=fun x hx=>by
 rcases List.mem_or_eq_of_mem_set hx with h|h
 ·exact hz x h
 ·omega
theorem replicate_lt (n:Nat):∀x∈List.replicate n 0,x<4294967296:=fun x hx=>by rw [(List.mem_replicate.1 hx).2];omega
def cmpN (a b:Nat):Int:=if a<b then-1 else if a=b then 0 else 1
theorem words_pow_lt (n:Nat):n<4294967296^(words n).length:=by
 have:=val_lt (words n) (words_lt n)
 rwa [val_words] at this
theorem words_len_le {n k:Nat} (h:n<4294967296^k):(words n).length≤k:=by
 induction k generalizing n with
 |zero=>have:n=0:=by simpa using h
        subst this;rw [words_zero];simp
 |succ k ih=>
  by_cases h0:n=0
  ·subst h0;rw [words_zero];simp
  ·rw [words_cons h0,List.length_cons]
   have:= @ih (n/4294967296) (by rw [Nat.pow_succ] at h;exact Nat.div_lt_of_lt_mul om)
   omega
theorem words_pow_le {n:Nat} (h:n≠0):4294967296^((words n).length-1)≤n:=by
 rcases Nat.lt_or_ge n (4294967296^((words n).length-1)) with hlt|hge
 ·have:=words_len_le hlt
  have hl:(words n).length≠0:=fun e=>h (words_eq_nil.1 (List.length_eq_zero_iff.1 e))
  omega
 ·exact hge
theorem words_val_len (xs:List Nat) (hx:∀x∈xs,x<4294967296):(words (val xs)).length≤xs.length:=words_len_le (val_lt xs hx)
theorem words_len_mono {a b:Nat} (h:a≤b):(words a).length≤(words b).length:=words_len_le (Nat.lt_of_le_of_lt h (words_pow_lt b))
theorem cmpN_len_lt {a b:Nat} (h:(words a).length<(words b).length):cmpN a b= -1:=by
 have:a<b:=by
  rcases Nat.lt_or_ge a b with h1|h1
  ·exact h1
  ·have:=words_len_mono h1;omega
 simp [cmpN,this]
theorem cmpN_len_gt {a b:Nat} (h:(words b).length<(words a).length):cmpN a b=1:=by
 have:b<a:=by
  rcases Nat.lt_or_ge b a with h1|h1
  ·exact h1
  ·have:=words_len_mono h1;omega
 unfold cmpN
 rw [if_neg om,if_neg om]
theorem drop_getD (xs:List Nat) {i:Nat} (h:i<xs.length):xs.drop i=xs.getD i 0::xs.drop (i+1):=by
 rw [List.drop_eq_getElem_cons h,List.getD_eq_getElem?_getD,List.getElem?_eq_getElem h];rfl
theorem val_drop (xs:List Nat) (i:Nat):val (xs.drop i)=xs.getD i 0+4294967296*val (xs.drop (i+1)):=by
 by_cases h:i<xs.length
 ·rw [List.drop_eq_getElem_cons h,val,List.getD_eq_getElem?_getD,List.getElem?_eq_getElem h];rfl
 ·rw [getD_ge om,List.drop_eq_nil_of_le om,List.drop_eq_nil_of_le om];rfl
theorem val_split (xs:List Nat) (i:Nat) (h:i≤xs.length):val xs=val (xs.take i)+4294967296^i*val (xs.drop i):=by
 have:=val_append (xs.take i) (xs.drop i)
 rwa [List.take_append_drop,List.length_take,Nat.min_eq_left h] at this
theorem val_take_lt (xs:List Nat) (hx:∀x∈xs,x<4294967296) (i:Nat) (h:i≤xs.length):val (xs.take i)<4294967296^i:=by
 have:=val_lt (xs.take i) (fun x hm=>hx x (List.mem_of_mem_take hm))
 rwa [List.length_take,Nat.min_eq_left h] at this
theorem word_lt {xs ys:List Nat} {i:Nat} (hx:∀x∈xs,x<4294967296) (hy:∀x∈ys,x<4294967296) (h1:i<xs.length) (h2:i<ys.length) (hd:xs.drop (i+1)=ys.drop (i+1)) (hlt:xs.getD i 0<ys.getD i 0):val xs<val ys:=by
 rw [val_split xs i om,val_split ys i om,val_drop xs i,val_drop ys i,hd]
 have h3:=val_take_lt xs hx i om
 have h5:4294967296^i*(xs.getD i 0+4294967296*val (ys.drop (i+1))+1)≤4294967296^i*(ys.getD i 0+4294967296*val (ys.drop (i+1))):=Nat.mul_le_mul_left _ om
 rw [Nat.mul_add,Nat.mul_one] at h5
 omega
theorem add_step {xs ys zs:List Nat} {i c:Nat} (hi:i<zs.length) (h:val (zs.take i)+4294967296^i*c=val (xs.take i)+val (ys.take i)):
  val ((zs.set i ((c+(xs.getD i 0+ys.getD i 0))%4294967296)).take (i+1))+4294967296^(i+1)*((c+(xs.getD i 0+ys.getD i 0))/4294967296)=val (xs.take (i+1))+val (ys.take (i+1)):=by
 rw [val_set_take hi,val_take_succ,val_take_succ,Nat.pow_succ]
 generalize xs.getD i 0=x at*
 generalize ys.getD i 0=y at*
 have e:(c+(x+y))%4294967296+4294967296*((c+(x+y))/4294967296)=c+(x+y):=Nat.mod_add_div _ _
 have e2:4294967296^i*((c+(x+y))%4294967296)+4294967296^i*4294967296*((c+(x+y))/4294967296)=4294967296^i*(c+(x+y)):=by
  rw [Nat.mul_assoc,←Nat.mul_add,e]
 rw [Nat.mul_add,Nat.mul_add] at e2
 omega
theorem add_end {xs ys zs:List Nat} {c:Nat} (hx:∀x∈xs,x<4294967296) (hy:∀x∈ys,x<4294967296) (hl:zs.length=max xs.length ys.length+1)
  (h:val (zs.take zs.length)+4294967296^zs.length*c=val (xs.take zs.length)+val (ys.take zs.length)):val zs=val xs+val ys:=by
 rw [List.take_length,List.take_of_length_le om,List.take_of_length_le om] at h
 have h1:=val_lt xs hx
 have h2:=val_lt ys hy
 have h3:(4294967296:Nat)^xs.length≤4294967296^(max xs.length ys.length):=Nat.pow_le_pow_right om om
 have h4:(4294967296:Nat)^ys.length≤4294967296^(max xs.length ys.length):=Nat.pow_le_pow_right om om
 have h5:(4294967296:Nat)^zs.length=4294967296^(max xs.length ys.length)*4294967296:=by rw [hl,Nat.pow_succ]
 rcases Nat.eq_zero_or_pos c with rfl|hc
 ·simpa using h
 ·have h6:4294967296^zs.length*1≤4294967296^zs.length*c:=Nat.mul_le_mul_left _ hc
  have h7:0<4294967296^(max xs.length ys.length):=Nat.pow_pos om
  omega
def subD (x y b:Nat):Nat:=(x+18446744073709551616-y-b)%18446744073709551616
theorem sub_step {xs ys zs:List Nat} {i b:Nat} (hi:i<zs.length) (hx:xs.getD i 0<4294967296) (hy:ys.getD i 0<4294967296) (hb:b≤1) (h:val (zs.take i)+val (ys.take i)=val (xs.take i)+4294967296^i*b):
  val ((zs.set i (subD (xs.getD i 0) (ys.getD i 0) b%4294967296)).take (i+1))+val (ys.take (i+1))=val (xs.take (i+1))+4294967296^(i+1)*(subD (xs.getD i 0) (ys.getD i 0) b/9223372036854775808)∧subD (xs.getD i 0) (ys.getD i 0) b/9223372036854775808≤1:=by
 rw [val_set_take hi,val_take_succ,val_take_succ,Nat.pow_succ]
 generalize xs.getD i 0=x at*
 generalize ys.getD i 0=y at*
 have hd:subD x y b%4294967296+(y+b)=x+4294967296*(subD x y b/9223372036854775808)∧subD x y b/9223372036854775808≤1:=by
  unfold subD
  rcases Nat.lt_or_ge x (y+b) with h1|h1<;>omega
 generalize subD x y b%4294967296=v at*
 generalize subD x y b/9223372036854775808=b' at*
 have e2:4294967296^i*(v+(y+b))=4294967296^i*(x+4294967296*b'):=by rw [hd.1]
 rw [Nat.mul_add,Nat.mul_add,Nat.mul_add,←Nat.mul_assoc] at e2
 exact⟨by omega,hd.2⟩
theorem sub_end {xs ys zs:List Nat} {b:Nat} (hx:∀x∈xs,x<4294967296) (hz:∀x∈zs,x<4294967296) (hl:zs.length=xs.length) (hle:val ys≤val xs)
  (h:val (zs.take xs.length)+val (ys.take xs.length)=val (xs.take xs.length)+4294967296^xs.length*b):val zs=val xs-val ys:=by
 rw [←hl,List.take_length,hl,List.take_length] at h
 have h1:=val_lt xs hx
 have h2:=val_lt zs hz
 rw [hl] at h2
 have h3:val (ys.take xs.length)=val ys:=by
  by_cases hc:xs.length≤ys.length
  ·have:=val_split ys xs.length hc
   rcases Nat.eq_zero_or_pos (val (ys.drop xs.length)) with h0|h0
   ·rw [h0] at this;omega
   ·have:=Nat.mul_le_mul_left (4294967296^xs.length) h0
    omega
  ·rw [List.take_of_length_le om]
 rcases Nat.eq_zero_or_pos b with rfl|hb
 ·omega
 ·have:=Nat.mul_le_mul_left (4294967296^xs.length) hb
  omega
theorem val_set {zs:List Nat} {j v:Nat} (h:j<zs.length):val (zs.set j v)+4294967296^j*zs.getD j 0=val zs+4294967296^j*v:=by
 have h1:=val_split (zs.set j v) j (by simp;omega)
 have h2:=val_split zs j om
 rw [take_set] at h1
 have h3:=val_drop (zs.set j v) j
 have h4:=val_drop zs j
 have h5:(zs.set j v).drop (j+1)=zs.drop (j+1):=by
  apply List.ext_getElem?
  intro q
  rw [List.getElem?_drop,List.getElem?_drop,List.getElem?_set_ne om]
 rw [getD_set h,h5] at h3
 rw [h3] at h1
 rw [h4] at h2
 rw [h1,h2,Nat.mul_add,Nat.mul_add]
 omega
theorem getD_zero_of_lt {zs:List Nat} {m j:Nat} (h:val zs<4294967296^m) (hj:m≤j):zs.getD j 0=0:=by
 by_cases hl:j<zs.length
 ·have h1:=val_split zs j om
  rw [val_drop zs j] at h1
  rcases Nat.eq_zero_or_pos (zs.getD j 0) with h0|h0
  ·exact h0
  ·have h2:(4294967296:Nat)^m≤4294967296^j:=Nat.pow_le_pow_right om hj
   have h3:=Nat.mul_le_mul_left (4294967296^j) (show 1≤zs.getD j 0+4294967296*val (zs.drop (j+1)) from by omega)
   omega
 ·exact getD_ge om
theorem getD_set_ne {zs:List Nat} {i j v:Nat} (h:i≠j):(zs.set i v).getD j 0=zs.getD j 0:=by
 rw [List.getD_eq_getElem?_getD,List.getD_eq_getElem?_getD,List.getElem?_set_ne h]
theorem mul_step {zs ys:List Nat} {i k c x V:Nat} (hk:i+k<zs.length) (h:val zs+4294967296^(i+k)*c=V+4294967296^i*(x*val (ys.take k))):
  val (zs.set (i+k) ((c+(x*ys.getD k 0+zs.getD (i+k) 0))%4294967296))+4294967296^(i+(k+1))*((c+(x*ys.getD k 0+zs.getD (i+k) 0))/4294967296)=V+4294967296^i*(x*val (ys.take (k+1))):=by
 have h1:=val_set (v:=(c+(x*ys.getD k 0+zs.getD (i+k) 0))%4294967296) hk
 generalize zs.getD (i+k) 0=z at*
 have e:(c+(x*ys.getD k 0+z))%4294967296+4294967296*((c+(x*ys.getD k 0+z))/4294967296)=c+(x*ys.getD k 0+z):=Nat.mod_add_div _ _
 have e2:4294967296^(i+k)*((c+(x*ys.getD k 0+z))%4294967296)+4294967296^(i+(k+1))*((c+(x*ys.getD k 0+z))/4294967296)=4294967296^(i+k)*c+4294967296^(i+k)*(x*ys.getD k 0)+4294967296^(i+k)*z:=by
  rw [show i+(k+1)=(i+k)+1 from by omega,Nat.pow_succ,Nat.mul_assoc,←Nat.mul_add,e,Nat.mul_add,Nat.mul_add,Nat.add_assoc]
 have e3:4294967296^i*(x*val (ys.take (k+1)))=4294967296^i*(x*val (ys.take k))+4294967296^(i+k)*(x*ys.getD k 0):=by
  rw [val_take_succ,Nat.mul_add,Nat.mul_add,Nat.pow_add,Nat.mul_left_comm x,Nat.mul_assoc]
 omega
theorem mul_bound {x y:Nat} (hx:x<4294967296) (hy:y<4294967296):x*y≤18446744065119617025:=by
 have:=Nat.mul_le_mul (show x≤4294967295 from by omega) (show y≤4294967295 from by omega)
 omega
theorem drop_set {zs:List Nat} {i v:Nat} (h:i<zs.length):(zs.set i v).drop i=v::zs.drop (i+1):=by
 rw [drop_getD _ (by simpa using h),getD_set h]
 congr 1
 apply List.ext_getElem?
 intro q
 rw [List.getElem?_drop,List.getElem?_drop,List.getElem?_set_ne om]
theorem small_step {xs zs:List Nat} {m b r:Nat} (hb:0<b) (hm:m<zs.length) (h:val (xs.drop (m+1))=b*val (zs.drop (m+1))+r):
  val (xs.drop m)=b*val ((zs.set m ((r*4294967296+xs.getD m 0)/b)).drop m)+(r*4294967296+xs.getD m 0)%b:=by
 rw [val_drop,drop_set hm,val,h]
 generalize xs.getD m 0=x
 have e:=Nat.div_add_mod (r*4294967296+x) b
 generalize (r*4294967296+x)/b=q at*
 generalize (r*4294967296+x)%b=t at*
 have e2:b*(q+4294967296*val (zs.drop (m+1)))=b*q+4294967296*(b*val (zs.drop (m+1))):=by
  rw [Nat.mul_add,Nat.mul_left_comm]
 rw [e2]
 omega
end Go.PN
namespace Go.Proofs.YtefekdejgbceiaaGreat
open Go.AI Go.PN
attribute [local irreducible] aw Fa Fh DrK
theorem word_fa (xs:List Nat) (i:Nat) (hx:∀x∈xs,x<4294967296):Fa Tryz.prog 177 [.c (ws false xs),.c (.int .i64 i)] (.c (.int .u64 (xs.getD i 0:Nat))):=by
 refine fa_of_body Tryz.func177 rfl rfl (by simp [Tryz.ntmps177]) fun C hC=> ?_
 have hb:=getD_lt hx i
 simp only [initS,Nat.reduceAdd]
 refine xG ?_
 refine aw_cond eE (fun hb=> ?_) (fun hb=> ?_)
 ·simp only [decide_eq_true_eq] at hb
  refine xGT hC ?_
  exact .one (.c (ler_int rfl))
 ·simp only [decide_eq_false_iff_not] at hb
  refine xGT hC ?_
  refine .one (.c (ler_int ?_))
  rw [getD_ge om];rfl
theorem trim_fa (xs:List Nat) (hx:∀x∈xs,x<4294967296) (hl:xs.length≤1099511627776):Fa Tryz.prog 130 [.c (ws false xs)] (.c (ws true (words (val xs)))):=by
 refine fa_of_body Tryz.func130 rfl rfl (by simp [Tryz.ntmps130]) fun C hC=> ?_
 simp only [initS,Nat.reduceAdd]
 refine xG ?_
 refine aw_lp (fun m:Nat=>[(0,.c (ws false xs)),(3,.c (.int .i64 m))]) (fun _=>[]) (fun m=>m≤xs.length∧(∀j,m≤j→xs.getD j 0=0)) id xs.length eB zZ ⟨Nat.le_refl _,fun j hj=>getD_ge hj⟩ ?_
 rintro m ⟨hm,hz⟩
 have hend:(m=0∨xs.getD (m-1) 0≠0)→words (val xs)=xs.take m:=trim_eq xs m hx hm hz
 by_cases h0:0<m
 ·have hd:decide ((m:Int)>0)=true:=by simp;omega
  apply aw_seq
  apply aw_seq
  refine aw_rp true (by simp only [go_sem,Nat.reduceEqDiff,reduceIte,hd]<;>rfl) (by(try simp only [inRange])<;>and_intros<;>first|exact True.intro|omega|trivial) rfl ?_
  have e1:((m:Int)-1).toNat=m-1:=by omega
  refine aw_cond eE (fun hb=> ?_) (fun hb=> ?_)
  ·have hb':xs.getD (m-1) 0=0:=by simpa using hb
   refine xG ?_
   refine aw_stop ⟨m-1,by simp only [id];omega,eB,zZ,by omega,fun j hj=> ?_⟩
   by_cases hjm:j=m-1
   ·rw [hjm];exact hb'
   ·exact hz j om
  ·have hb':xs.getD (m-1) 0≠0:=by simpa using hb
   have hm0:((m:Int)==0)=false:=by simp;omega
   refine xG ?_
   refine aw_cond eE (fun hb=> ?_) (fun hb=> ?_)
   ·rw [hm0] at hb;cases hb
   ·refine xG ?_
    refine aw_buildSlice (xs:=[]) (cells:=[]) rfl rfl rfl ty_e_ws (by rw [envP,ty_z_u32];rfl) rfl om om (by simp) rfl fun g hg=> ?_
    simp only [go_sem,Nat.reduceEqDiff,reduceIte]
    refine xG ?_
    refine aw_append rfl rfl rfl ty_e_ws ty_z_u32 rfl om eE eE om eE .row (fun _ _=>rfl) h0 (by unfold maxLen;omega) om eE fun g' hg'=> ?_
    simp only [go_sem,Nat.reduceEqDiff,reduceIte]
    refine xGT hC ?_
    refine .one (.c ?_)
    rw [hend (.inr hb')]
    refine ler_oslws eE om (by simp;omega) (fun j hj=> ?_)
    simp only [appF,Nat.not_lt_zero,if_false,Nat.sub_zero,Nat.zero_add]
    rw [getD_take hj]
 ·have hm0:m=0:=by omega
  subst hm0
  have hd:decide (((0:Nat):Int)>0)=false:=by simp
  apply aw_seq
  apply aw_seq
  refine aw_rp true (by simp only [go_sem,Nat.reduceEqDiff,reduceIte,hd]<;>rfl) (by(try simp only [inRange])<;>and_intros<;>first|exact True.intro|omega|trivial) rfl ?_
  refine aw_cond eE (fun hb=> ?_) (fun _=> ?_)
  ·cases hb
  refine xG ?_
  refine aw_cond eE (fun _=> ?_) (fun hb=> ?_)
  ·refine xGT hC ?_
   refine .one (.c ?_)
   rw [hend (.inl rfl)]
   exact .nils
  ·cases hb
end Go.Proofs.YtefekdejgbceiaaGreat
namespace Go.Proofs.YtefekdejgbceiaaGreat
open Go.AI Go.PN
attribute [local irreducible] aw Fa Fh DrK
theorem add_fa (xs ys:List Nat) (hx:∀x∈xs,x<4294967296) (hy:∀x∈ys,x<4294967296) (hlx:xs.length≤68719476736) (hly:ys.length≤68719476736):
  Fa Tryz.prog 146 [.c (ws false xs),.c (ws false ys)] (.c (ws true (words (val xs+val ys)))):=by
 refine fa_of_body Tryz.func146 rfl rfl (by simp [Tryz.ntmps146]) fun C hC=> ?_
 simp only [initS,Nat.reduceAdd]
 refine xG ?_
 have hmx:(if(ys.length:Int)>xs.length then(ys.length:Int) else xs.length)+1=((max xs.length ys.length+1:Nat):Int):=by split<;>omega
 rw [hmx]
 generalize hn:max xs.length ys.length+1=n
 refine aw_make (n:=n) (c:=n) rfl rfl rfl ty_e_ws ty_z_u32 rfl om eE eE rfl rfl om om om fun g hg=> ?_
 rw [make_wf n]
 refine xSG ?_
 refine aw_lp (fun x:Nat×Nat×List Nat=>[(0,.c (ws false xs)),(1,.c (ws false ys)),(5,.c (.osl g 1 0 n)),(6,.c (.int .u64 x.2.1)),(16,.c (.int .i64 n)),(17,.c (.int .i64 x.1))]) (fun x=>[(g,.cells 139 n (wf x.2.2))])
  (fun x=>x.1≤n∧x.2.1≤1∧x.2.2.length=n∧(∀y∈x.2.2,y<4294967296)∧val (x.2.2.take x.1)+4294967296^x.1*x.2.1=val (xs.take x.1)+val (ys.take x.1)) (fun x=>n-x.1) (0,0,List.replicate n 0) eB zZ
  ⟨Nat.zero_le _,Nat.zero_le _,by simp,replicate_lt n,by simp [val]⟩ ?_
 rintro ⟨i,c,zs⟩ ⟨hi,hc,hzl,hz,hv⟩
 dsimp only at hi hc hzl hz hv⊢
 refine xG ?_
 refine aw_cond eE (fun hb=> ?_) (fun hb=> ?_)
 ·have hin:i<n:=by simpa using hb
  have hxi:=getD_lt hx i
  have hyi:=getD_lt hy i
  refine xG ?_
  refine aw_callq (word_fa xs i hx) rfl rfl rfl eL ?_
  refine xSG ?_
  refine aw_callq (word_fa ys i hy) rfl rfl rfl eL ?_
  refine xSG ?_
  have ew:wrapZ .u32 ((c:Int)+(((xs.getD i 0:Nat):Int)+((ys.getD i 0:Nat):Int)))=(((c+(xs.getD i 0+ys.getD i 0))%4294967296:Nat):Int):=by rw [wrapZ_eq,IntKind.wrap_u32];omega
  rw [ew]
  refine xW ?_
  refine xS ?_
  rw [updF_wf om]
  refine xG ?_
  refine aw_stop ⟨(i+1,(c+(xs.getD i 0+ys.getD i 0))/4294967296,zs.set i ((c+(xs.getD i 0+ys.getD i 0))%4294967296)),by simp only;omega,eB,zZ,by simp only;omega,by simp only;omega,by simpa using hzl,set_lt hz om,add_step om hv⟩
 ·have hin:i=n:=by have:¬((i:Int)<n):=by simpa using hb
                   omega
  subst hin
  refine xG ?_
  refine aw_callq (trim_fa zs hz om) rfl rfl rfl (by refine xS ?_;exact .c (lec_oslws eE om om (fun j _=>by rw [Nat.zero_add];rfl))) ?_
  refine xSGT hC ?_
  rw [add_end hx hy om (by rw [hzl];exact hv)]
  exact .one (.c ler_ws)
end Go.Proofs.YtefekdejgbceiaaGreat
namespace Go.AI
theorem ofInt64 (a:Nat):(BitVec.ofInt 64 (a:Int)).toNat=a%18446744073709551616:=by
 rw [BitVec.ofInt_natCast,BitVec.toNat_ofNat]
theorem or_u64 (a b:Nat) (ha:a<18446744073709551616) (hb:b<18446744073709551616):orZ .u64 (a:Int) (b:Int)=((a|||b:Nat):Int):=by
 have hx:a|||b<2^64:=Nat.or_lt_two_pow om om
 rw [orZ_eq]
 show IntKind.u64.wrap (((BitVec.ofInt 64 (a:Int))|||(BitVec.ofInt 64 (b:Int))).toNat:Int)=_
 rw [BitVec.toNat_or,ofInt64,ofInt64,Nat.mod_eq_of_lt ha,Nat.mod_eq_of_lt hb,IntKind.wrap_u64]
 omega
theorem or_join (x y:Nat) (hy:y<4294967296):x*4294967296|||y=x*4294967296+y:=by
 have:=Nat.two_pow_add_eq_or_of_lt (i:=32) (b:=y) om x
 rw [Nat.mul_comm x,←this]
theorem or_u64_join (x y:Nat) (hx:x<4294967296) (hy:y<4294967296):orZ .u64 ((x*4294967296:Nat):Int) (y:Int)=((x*4294967296+y:Nat):Int):=by
 rw [or_u64 _ _ om om,or_join x y hy]
def j32 (x y:Nat):Nat:=x*4294967296+y
theorem or_u64_j32 (x y:Nat) (hx:x<4294967296) (hy:y<4294967296):orZ .u64 ((x*4294967296:Nat):Int) (y:Int)=((j32 x y:Nat):Int):=or_u64_join x y hx hy
theorem or_u64_join' (x y:Nat) (hx:x<4294967296) (hy:y<4294967296):orZ .u64 (y:Int) ((x*4294967296:Nat):Int)=((x*4294967296+y:Nat):Int):=by
 rw [or_u64 _ _ om om,Nat.or_comm,or_join x y hy]
theorem or_u32 (a b:Nat) (ha:a<4294967296) (hb:b<4294967296):orZ .u32 (a:Int) (b:Int)=((a|||b:Nat):Int):=by
 have hx:a|||b<2^32:=Nat.or_lt_two_pow om om
 rw [orZ_eq]
 show IntKind.u32.wrap (((BitVec.ofInt 32 (a:Int))|||(BitVec.ofInt 32 (b:Int))).toNat:Int)=_
 rw [BitVec.toNat_or,BitVec.ofInt_natCast,BitVec.ofInt_natCast,BitVec.toNat_ofNat,BitVec.toNat_ofNat,Nat.mod_eq_of_lt om,Nat.mod_eq_of_lt om,IntKind.wrap_u32]
 omega
theorem shl_u64_32 (x:Nat) (hx:x<4294967296):shlZ .u64 (x:Int) 32=((x*4294967296:Nat):Int):=by
 rw [shlZ_eq]
 show IntKind.u64.wrap ((x:Int)*4294967296)=_
 rw [IntKind.wrap_u64];omega
theorem nat_div_32 (y:Nat):(y:Int)/4294967296=((y/4294967296:Nat):Int):=by omega
theorem pow_lt_32 {n:Nat} (hn:n≤32):2^n≤4294967296:=Nat.pow_le_pow_right (n:=2) om hn
theorem shl_u64 (x n:Nat) (hx:x<4294967296) (hn:n≤32):shlZ .u64 (x:Int) (n:Int)=((x*2^n:Nat):Int):=by
 have h1:=pow_lt_32 hn
 have h2:x*2^n≤4294967295*4294967296:=Nat.mul_le_mul om h1
 rw [shlZ_eq]
 show IntKind.u64.wrap ((x:Int)*2^(min (n:Int).toNat 64))=_
 rw [Int.toNat_natCast,Nat.min_eq_left om,IntKind.wrap_u64]
 have e:(x:Int)*2^n=((x*2^n:Nat):Int):=by simp
 rw [e]
 omega
theorem shr_u64 (x n:Nat) (hn:n≤64):shrZ .u64 (x:Int) (n:Int)=((x/2^n:Nat):Int):=by
 rw [shrZ_eq]
 show(x:Int).fdiv (2^(min (n:Int).toNat 64))=_
 rw [Int.toNat_natCast,Nat.min_eq_left hn]
 have e:(2:Int)^n=((2^n:Nat):Int):=by simp
 rw [e,Int.fdiv_eq_ediv_of_nonneg _ (Int.natCast_nonneg _)]
 rfl
theorem quo_u64 (a b:Nat) (ha:a<18446744073709551616):quoZ .u64 (a:Int) (b:Int)=((a/b:Nat):Int):=by
 rw [quoZ_eq]
 show IntKind.u64.wrap ((a:Int).tdiv b)=_
 have h:=Nat.div_le_self a b
 have e:(a:Int).tdiv (b:Int)=((a/b:Nat):Int):=rfl
 rw [e,IntKind.wrap_u64]
 generalize a/b=q at*
 omega
theorem rem_nat (a b:Nat):remZ (a:Int) (b:Int)=((a%b:Nat):Int):=by rw [remZ_eq];exact Int.ofNat_tmod a b
end Go.AI
namespace Go.Proofs.YtefekdejgbceiaaGreat
open Go.AI Go.PN
attribute [local irreducible] aw Fa Fh DrK
theorem small_fa (xs:List Nat) (b:Nat) (hx:∀x∈xs,x<4294967296) (hlx:xs.length≤68719476736) (hb0:0<b) (hb:b<4294967296):
  Fa Tryz.prog 155 [.c (ws false xs),.c (.int .u32 b)] (.tup [.c (ws true (words (val xs/b))),.c (.int .u32 (val xs%b:Nat))]):=by
 refine fa_of_body Tryz.func155 rfl rfl (by simp [Tryz.ntmps155]) fun C hC=> ?_
 simp only [initS,Nat.reduceAdd]
 refine xG ?_
 refine aw_make (n:=xs.length) (c:=xs.length) rfl rfl rfl ty_e_ws ty_z_u32 rfl om eE eE rfl rfl om om om fun g hg=> ?_
 rw [make_wf xs.length]
 refine xSG ?_
 refine aw_lp (fun x:Nat×Nat×List Nat=>[(0,.c (ws false xs)),(1,.c (.int .u32 b)),(6,.c (.osl g 1 0 xs.length)),(7,.c (.int .u64 x.2.1)),(8,.c (.int .i64 ((x.1:Int)-1)))]) (fun x=>[(g,.cells 139 xs.length (wf x.2.2))])
  (fun x=>x.1≤xs.length∧x.2.1<b∧x.2.2.length=xs.length∧(∀y∈x.2.2,y<4294967296)∧val (xs.drop x.1)=b*val (x.2.2.drop x.1)+x.2.1) (fun x=>x.1) (xs.length,0,List.replicate xs.length 0) eB zZ
  ⟨Nat.le_refl _,hb0,by simp,replicate_lt _,by simp [val]⟩ ?_
 rintro ⟨m,r,zs⟩ ⟨hm,hr,hzl,hz,hv⟩
 dsimp only at hm hr hzl hz hv⊢
 refine xG ?_
 refine aw_cond eE (fun hb1=> ?_) (fun hb1=> ?_)
 ·have hm1:1≤m:=dT hb1
  have e1:((m:Int)-1).toNat=m-1:=by omega
  have hxi:=getD_lt hx (m-1)
  have hst:=small_step (xs:=xs) (zs:=zs) (m:=m-1) (r:=r) hb0 om (by rw [show m-1+1=m from by omega];exact hv)
  refine xG ?_
  rw [shl_u64_32 r om,or_u64_join r _ om hxi]
  have hs:r*4294967296+xs.getD (m-1) 0<b*4294967296:=by
   have:(r+1)*4294967296≤b*4294967296:=Nat.mul_le_mul_right _ hr
   omega
  have hq:(r*4294967296+xs.getD (m-1) 0)/b<4294967296:=Nat.div_lt_of_lt_mul hs
  have hrm:(r*4294967296+xs.getD (m-1) 0)%b<b:=Nat.mod_lt _ hb0
  have hsl:r*4294967296+xs.getD (m-1) 0<18446744073709551616:=by omega
  generalize r*4294967296+xs.getD (m-1) 0=s at hs hq hrm hsl hst⊢
  refine xG ?_
  rw [quo_u64 s b hsl,wrap_u32_nat,Nat.mod_eq_of_lt hq]
  refine xW ?_
  refine xS ?_
  rw [updF_wf om]
  refine xG ?_
  rw [rem_nat]
  refine aw_stop ⟨(m-1,s%b,zs.set (m-1) (s/b)),by dsimp only;omega,eB,zZ,by dsimp only;omega,hrm,by simpa using hzl,set_lt hz hq,hst⟩
 ·have hm0:m=0:=dF hb1
  subst hm0
  refine xG ?_
  refine aw_callq (trim_fa zs hz om) rfl rfl rfl (by refine xS ?_;exact .c (lec_oslws eE om om (fun j _=>by rw [Nat.zero_add];rfl))) ?_
  refine xSGT hC ?_
  simp only [List.drop_zero] at hv
  have e1:val xs/b=val zs:=by rw [hv,Nat.mul_add_div hb0,Nat.div_eq_of_lt hr,Nat.add_zero]
  have e2:val xs%b=r:=by rw [hv,Nat.mul_add_mod,Nat.mod_eq_of_lt hr]
  rw [e1,e2,wrap_u32_nat,Nat.mod_eq_of_lt om]
  exact .tup ⟨.c ler_ws,.c (.int _ _),trivial⟩
end Go.Proofs.YtefekdejgbceiaaGreat
namespace Go.PN
theorem getD_replicate (n j:Nat):(List.replicate n 0).getD j 0=0:=by
 rw [List.getD_eq_getElem?_getD,List.getElem?_replicate];split<;>rfl
theorem two_pow_split {n:Nat} (hn:n≤32):(4294967296:Nat)=2^n*2^(32-n):=by
 rw [←Nat.pow_add,show n+(32-n)=32 from by omega]
theorem shl_mod (x n:Nat) (hn:n≤32):x*2^n%4294967296=2^n*(x%2^(32-n)):=by
 rw [two_pow_split hn,Nat.mul_comm x,Nat.mul_mod_mul_left]
theorem or_low {z x n:Nat} (hn:n≤32) (hz:z<2^n):z|||x*2^n%4294967296=z+x*2^n%4294967296:=by
 rw [shl_mod x n hn,Nat.or_comm,←Nat.two_pow_add_eq_or_of_lt hz,Nat.add_comm]
theorem or_low_lt {z x n:Nat} (hn:n≤32) (hz:z<2^n):z+x*2^n%4294967296<4294967296:=by
 rw [shl_mod x n hn]
 have h1:x%2^(32-n)+1≤2^(32-n):=Nat.mod_lt _ (Nat.two_pow_pos _)
 have h2:=Nat.mul_le_mul_left (2^n) h1
 rw [←two_pow_split hn,Nat.mul_add] at h2
 omega
theorem shl_hi {x n:Nat} (hx:x<4294967296):x*2^n/4294967296<2^n:=by
 rw [Nat.div_lt_iff_lt_mul om,Nat.mul_comm (2^n)]
 exact Nat.mul_lt_mul_of_pos_right hx (Nat.two_pow_pos _)
theorem left_step {xs zs:List Nat} {i n:Nat} (hi:i+1<zs.length) (h0:zs.getD (i+1) 0=0) (h:val zs=val (xs.take i)*2^n):
  val ((zs.set i (zs.getD i 0+xs.getD i 0*2^n%4294967296)).set (i+1) (xs.getD i 0*2^n/4294967296))=val (xs.take (i+1))*2^n:=by
 have h1:=val_set (zs:=zs) (j:=i) (v:=zs.getD i 0+xs.getD i 0*2^n%4294967296) om
 have h2:=val_set (zs:=zs.set i (zs.getD i 0+xs.getD i 0*2^n%4294967296)) (j:=i+1) (v:=xs.getD i 0*2^n/4294967296) (by simpa using hi)
 rw [getD_set_ne om,h0] at h2
 rw [val_take_succ,Nat.add_mul,←h]
 generalize hy:xs.getD i 0*2^n=y at h1 h2⊢
 have h3:4294967296^i*xs.getD i 0*2^n=4294967296^i*y:=by rw [Nat.mul_assoc,hy]
 have h4:4294967296^i*y=4294967296^i*(y%4294967296)+4294967296^(i+1)*(y/4294967296):=by
  rw [Nat.pow_succ,Nat.mul_assoc,←Nat.mul_add];congr 1;omega
 rw [Nat.mul_add] at h1
 rw [h3,h4]
 omega
def rgt (n:Nat):List Nat→List Nat
 |[]=>[]
 |x::xs=>(x+xs.getD 0 0*4294967296)/2^n%4294967296::rgt n xs
theorem rgt_length (n:Nat):∀xs,(rgt n xs).length=xs.length
 |[]=>rfl
 |_::xs=>by simp [rgt,rgt_length n xs]
theorem rgt_getD (n:Nat) (xs:List Nat):∀(i:Nat),i<xs.length→(rgt n xs).getD i 0=(xs.getD i 0+xs.getD (i+1) 0*4294967296)/2^n%4294967296:=by
 induction xs with
 |nil=>intro i h;simp at h
 |cons x xs ih=>
  intro i h
  cases i with
  |zero=>simp only [rgt,List.getD_cons_zero,List.getD_cons_succ]
  |succ i=>
   simp only [rgt,List.getD_cons_succ]
   exact ih i (by simpa using h)
theorem rgt_lt (n:Nat) (xs:List Nat):∀x∈rgt n xs,x<4294967296:=by
 induction xs with
 |nil=>intro x h;simp [rgt] at h
 |cons y xs ih=>
  intro x h
  simp only [rgt,List.mem_cons] at h
  rcases h with h|h
  ·rw [h];exact Nat.mod_lt _ om
  ·exact ih x h
theorem rgt_val {n:Nat} (hn:n≤32) (xs:List Nat):(∀x∈xs,x<4294967296)→val (rgt n xs)=val xs/2^n:=by
 induction xs with
 |nil=>intro _;simp [rgt,val]
 |cons x xs ih0=>
  intro hx
  have ih:=ih0 (fun y hy=>hx y (List.mem_cons_of_mem _ hy))
  have hxx:=hx x (by simp)
  have hV:val xs=xs.getD 0 0+4294967296*val (xs.drop 1):=by have:=val_drop xs 0;simpa using this
  simp only [rgt,val,ih]
  generalize hx':xs.getD 0 0=x' at hV⊢
  generalize val (xs.drop 1)=r at hV
  generalize hVv:val xs=V at hV⊢
  have hN:0<2^n:=Nat.two_pow_pos n
  have hB:=two_pow_split hn
  have hM:0<2^(32-n):=Nat.two_pow_pos _
  generalize 2^n=N at hN hB⊢
  generalize 2^(32-n)=M at hB hM
  have e1:x'%N=V%N:=by rw [hV,hB,Nat.mul_assoc,Nat.add_mul_mod_self_left]
  have e2:(x+x'*4294967296)/N=(x+x'%N*4294967296)/N+x'/N*4294967296:=by
   have hq:x'=N*(x'/N)+x'%N:=(Nat.div_add_mod x' N).symm
   have:x+x'*4294967296=(x+x'%N*4294967296)+N*(x'/N*4294967296):=by
    conv=>lhs;rw [hq]
    rw [Nat.add_mul,Nat.mul_assoc];omega
   rw [this,Nat.add_mul_div_left _ _ hN]
  have e3:(x+4294967296*V)/N=(x+V%N*4294967296)/N+V/N*4294967296:=by
   have hq:V=N*(V/N)+V%N:=(Nat.div_add_mod V N).symm
   have:x+4294967296*V=(x+V%N*4294967296)+N*(V/N*4294967296):=by
    conv=>lhs;rw [hq]
    rw [Nat.mul_add,←Nat.mul_assoc,Nat.mul_comm 4294967296 N,Nat.mul_assoc,Nat.mul_comm 4294967296 (V/N),Nat.mul_comm 4294967296 (V%N)];omega
   rw [this,Nat.add_mul_div_left _ _ hN]
  have hs:(x+x'%N*4294967296)/N<4294967296:=by
   rw [Nat.div_lt_iff_lt_mul hN]
   have h1:x'%N+1≤N:=Nat.mod_lt _ hN
   have h2:=Nat.mul_le_mul_right 4294967296 h1
   rw [Nat.mul_comm 4294967296 N]
   omega
  rw [e2,Nat.add_mul_mod_self_right,Nat.mod_eq_of_lt hs,e3,e1]
  omega
theorem take_step {us vs zs:List Nat} {i c b n:Nat} (hi:i<zs.length) (hu:us.getD i 0<4294967296) (hb:b≤1) (h:val (zs.take i)+n*val (vs.take i)=val (us.take i)+4294967296^i*(c+b)):
  val ((zs.set i (subD (us.getD i 0) ((c+n*vs.getD i 0)%4294967296) b%4294967296)).take (i+1))+n*val (vs.take (i+1))=
   val (us.take (i+1))+4294967296^(i+1)*((c+n*vs.getD i 0)/4294967296+subD (us.getD i 0) ((c+n*vs.getD i 0)%4294967296) b/9223372036854775808)∧
   subD (us.getD i 0) ((c+n*vs.getD i 0)%4294967296) b/9223372036854775808≤1:=by
 rw [val_set_take hi,val_take_succ vs,val_take_succ us,Nat.mul_add,Nat.pow_succ]
 have e0:n*(4294967296^i*vs.getD i 0)=4294967296^i*(n*vs.getD i 0):=by rw [←Nat.mul_assoc,Nat.mul_comm n,Nat.mul_assoc]
 rw [e0]
 generalize hU:us.getD i 0=u at*
 generalize hV:n*vs.getD i 0=p at*
 generalize hP:4294967296^i=P at*
 have hm:(c+p)%4294967296<4294967296:=Nat.mod_lt _ om
 have hdm:=Nat.div_add_mod (c+p) 4294967296
 generalize (c+p)%4294967296=l at*
 generalize (c+p)/4294967296=q at*
 refine⟨?_,by unfold subD;omega⟩
 have key:u+4294967296*(subD u l b/9223372036854775808)=subD u l b%4294967296+l+b:=by unfold subD;omega
 generalize subD u l b%4294967296=d at*
 generalize subD u l b/9223372036854775808=b' at*
 have k2:=congrArg (P* ·) key
 simp only [Nat.mul_add] at k2
 have k3:=congrArg (P* ·) hdm
 simp only [Nat.mul_add] at k3
 simp only [Nat.mul_add] at h⊢
 rw [Nat.mul_assoc P 4294967296 q,Nat.mul_assoc P 4294967296 b']
 omega
theorem take_carry {c n y:Nat} (hc:c<4294967296) (hn:n<4294967296) (hy:y<4294967296):c+n*y<18446744073709551616∧(c+n*y)/4294967296<4294967296:=by
 have:=mul_bound hn hy
 omega
theorem guess_down {V W D v1 v2 head w2 wr g rest:Nat} (hV:(v1*4294967296+v2)*D≤V) (hW:W=(head*4294967296+w2)*D+wr) (hr:wr<D) (hg:g*v1+rest=head) (hc:rest*4294967296+w2<g*v2):W<g*V:=by
 have h1:head*4294967296+w2+1≤g*(v1*4294967296+v2):=by
  rw [←hg,Nat.mul_add,←Nat.mul_assoc,Nat.add_mul];omega
 have h2:(head*4294967296+w2+1)*D≤g*V:=by
  refine Nat.le_trans (Nat.mul_le_mul_right D h1) ?_
  rw [Nat.mul_assoc]
  exact Nat.mul_le_mul_left g hV
 rw [Nat.add_mul,Nat.one_mul] at h2
 omega
theorem guess_up {V W D v1 v2 head w2 wr g rest vr:Nat} (hV:V=(v1*4294967296+v2)*D+vr) (hvr:vr<D) (hv1:1≤v1) (hW:W=(head*4294967296+w2)*D+wr) (hg:g*v1+rest=head) (hlt:g<4294967296) (hc:g*v2≤rest*4294967296+w2):g*V<W+V:=by
 have h1:g*(v1*4294967296+v2)≤head*4294967296+w2:=by
  rw [←hg,Nat.mul_add,←Nat.mul_assoc,Nat.add_mul];omega
 have h2:g*((v1*4294967296+v2)*D)≤(head*4294967296+w2)*D:=by
  rw [←Nat.mul_assoc];exact Nat.mul_le_mul_right D h1
 have h3:g*vr≤4294967296*D:=Nat.mul_le_mul (Nat.le_of_lt hlt) (Nat.le_of_lt hvr)
 have h4:4294967296*D≤(v1*4294967296+v2)*D:=Nat.mul_le_mul_right D om
 have hD:0<D:=by omega
 have h5:g*vr<4294967296*D∨D=0:=by
  rcases Nat.eq_zero_or_pos g with h|h
  ·subst h;left;omega
  ·left
   have:g*vr<g*D:=Nat.mul_lt_mul_of_pos_left hvr h
   have h6:g*D≤4294967296*D:=Nat.mul_le_mul_right D (Nat.le_of_lt hlt)
   omega
 have h7:g*V=g*((v1*4294967296+v2)*D)+g*vr:=by rw [hV,Nat.mul_add]
 omega
theorem guess_small {v1 head u1 g rest:Nat} (hh:head≤v1*4294967296+u1) (hu:u1<4294967296) (hg:g*v1+rest=head) (hr:4294967296≤rest):g<4294967296:=by
 rcases Nat.lt_or_ge g 4294967296 with h|h
 ·exact h
 ·have h2:=Nat.mul_le_mul_right v1 h
  rw [Nat.mul_comm 4294967296 v1] at h2
  omega
def win (ys:List Nat) (off:Nat) (zs:List Nat):List Nat:=ys.take off++(zs++ys.drop (off+zs.length))
theorem win_length {ys zs:List Nat} {off:Nat} (h:off+zs.length≤ys.length):(win ys off zs).length=ys.length:=by
 simp [win];omega
theorem win_getD {ys zs:List Nat} {off i:Nat} (h:off≤ys.length) (hi:i<zs.length):(win ys off zs).getD (off+i) 0=zs.getD i 0:=by
 unfold win
 rw [List.getD_eq_getElem?_getD,List.getElem?_append_right (by simp;omega),List.getElem?_append_left (by simp;omega),List.getD_eq_getElem?_getD]
 congr 2;simp;omega
theorem win_set {ys zs:List Nat} {off i v:Nat} (h:off≤ys.length) (hi:i<zs.length):(win ys off zs).set (off+i) v=win ys off (zs.set i v):=by
 unfold win
 rw [List.set_append,if_neg (by simp;omega),List.set_append,if_pos (by simp;omega)]
 simp only [List.length_set,List.length_take]
 rw [show off+i-min off ys.length=i from by omega]
theorem win_self {ys:List Nat} {off L:Nat} (h:off+L≤ys.length):win ys off ((ys.drop off).take L)=ys:=by
 unfold win
 rw [show off+((ys.drop off).take L).length=off+L from by simp;omega,←List.drop_drop,List.take_append_drop,List.take_append_drop]
theorem val_win {ys zs:List Nat} {off:Nat} (h:off≤ys.length):val (win ys off zs)=val (ys.take off)+4294967296^off*(val zs+4294967296^zs.length*val (ys.drop (off+zs.length))):=by
 unfold win
 rw [val_append,val_append,List.length_take,Nat.min_eq_left h]
theorem win_lt {ys zs:List Nat} {off:Nat} (hy:∀x∈ys,x<4294967296) (hz:∀x∈zs,x<4294967296):∀x∈win ys off zs,x<4294967296:=fun x hx=>by
 unfold win at hx
 simp only [List.mem_append] at hx
 rcases hx with h|h|h
 ·exact hy x (List.mem_of_mem_take h)
 ·exact hz x h
 ·exact hy x (List.mem_of_mem_drop h)
end Go.PN
namespace Go.Proofs.YtefekdejgbceiaaGreat
open Go.AI Go.PN
attribute [local irreducible] aw Fa Fh DrK
theorem left_fh (xs:List Nat) (n:Nat) (hx:∀x∈xs,x<4294967296) (hlx:xs.length≤68719476736) (hn:n<32):
  Fh Tryz.prog 157 [] [.c (ws false xs),.c (.int .i64 n)] (fun r h=>∃g zs,r=.c (.osl g 1 0 (xs.length+1))∧h=[(g,.cells 139 (xs.length+1) (wf zs))]∧zs.length=xs.length+1∧(∀y∈zs,y<4294967296)∧val zs=val xs*2^n):=by
 refine fh_of_body Tryz.func157 rfl rfl (by simp [Tryz.ntmps157]) fun C hC=> ?_
 simp only [initS,Nat.reduceAdd]
 refine xG ?_
 refine aw_make (n:=xs.length+1) (c:=xs.length+1) rfl rfl rfl ty_e_ws ty_z_u32 rfl om eE eE rfl rfl om om om fun g hg=> ?_
 rw [make_wf (xs.length+1)]
 refine xSG ?_
 refine aw_lp (fun x:Nat×List Nat=>[(0,.c (ws false xs)),(1,.c (.int .i64 n)),(5,.c (.osl g 1 0 (xs.length+1))),(13,.c (ws false xs)),(14,.c (.int .i64 xs.length)),(15,.c (.int .i64 x.1))]) (fun x=>[(g,.cells 139 (xs.length+1) (wf x.2))])
  (fun x=>x.1≤xs.length∧x.2.length=xs.length+1∧(∀y∈x.2,y<4294967296)∧x.2.getD x.1 0<2^n∧(∀j,x.1<j→x.2.getD j 0=0)∧val x.2=val (xs.take x.1)*2^n) (fun x=>xs.length-x.1) (0,List.replicate (xs.length+1) 0) eB zZ
  ⟨by omega,by simp,replicate_lt _,by rw [getD_replicate];exact Nat.two_pow_pos n,fun j _=>getD_replicate _ _,by simp [val_replicate,val]⟩ ?_
 rintro ⟨i,zs⟩ ⟨hi,hzl,hz,hlow,hhi,hv⟩
 dsimp only at hi hzl hz hlow hhi hv⊢
 refine xG ?_
 refine aw_cond eE (fun hb1=> ?_) (fun hb1=> ?_)
 ·have hi1:i<xs.length:=dT hb1
  have hxi:=getD_lt hx i
  refine xG ?_
  rw [shl_u64 _ n hxi om]
  refine xG ?_
  have hml:xs.getD i 0*2^n%4294967296<4294967296:=Nat.mod_lt _ om
  rw [wrap_u32_nat,or_u32 _ _ (by have:=getD_lt hz i;omega) hml,or_low om hlow]
  have hvl:=or_low_lt (x:=xs.getD i 0) om hlow
  have hst:=left_step (xs:=xs) (zs:=zs) (i:=i) (n:=n) om (hhi _ om) hv
  have hhl:=shl_hi (n:=n) hxi
  have hp32:2^n≤4294967296:=pow_lt_32 om
  refine xW ?_
  refine xS ?_
  rw [updF_wf om]
  refine xG ?_
  rw [nat_div_32,wrap_u32_nat,Nat.mod_eq_of_lt (show xs.getD i 0*2^n/4294967296<4294967296 from by omega)]
  refine xW ?_
  refine xS ?_
  rw [updF_wf (by simp;omega)]
  refine xG ?_
  refine aw_stop ⟨(i+1,_),by dsimp only;omega,eB,zZ,by dsimp only;omega,by simpa using hzl,set_lt (set_lt hz hvl) om,?_,fun j hj=> ?_,hst⟩
  ·dsimp only
   rw [PN.getD_set (by simp;omega)];exact hhl
  ·dsimp only at hj⊢
   rw [PN.getD_set_ne om,PN.getD_set_ne om];exact hhi j om
 ·have hi1:i=xs.length:=dF hb1
  subst hi1
  refine xGU ?_
  exact⟨g,zs,rfl,rfl,hzl,hz,by rw [hv,List.take_length]⟩
theorem right_fa (xs:List Nat) (n:Nat) (hx:∀x∈xs,x<4294967296) (hlx:xs.length≤68719476738) (hn:n<32):
  Fa Tryz.prog 160 [.c (ws false xs),.c (.int .i64 n)] (.c (ws true (rgt n xs))):=by
 refine fa_of_body Tryz.func160 rfl rfl (by simp [Tryz.ntmps160]) fun C hC=> ?_
 simp only [initS,Nat.reduceAdd]
 refine xG ?_
 refine aw_make (n:=xs.length) (c:=xs.length) rfl rfl rfl ty_e_ws ty_z_u32 rfl om eE eE rfl rfl om om om fun g hg=> ?_
 rw [make_wf xs.length]
 refine xSG ?_
 refine aw_lp (fun x:Nat×List Nat=>[(0,.c (ws false xs)),(1,.c (.int .i64 n)),(5,.c (.osl g 1 0 xs.length)),(11,.c (.int .i64 xs.length)),(12,.c (.int .i64 x.1))]) (fun x=>[(g,.cells 139 xs.length (wf x.2))])
  (fun x=>x.1≤xs.length∧x.2.length=xs.length∧(∀j,j<x.1→x.2.getD j 0=(rgt n xs).getD j 0)) (fun x=>xs.length-x.1) (0,List.replicate xs.length 0) eB zZ
  ⟨by omega,by simp,fun j hj=>by dsimp only at hj;omega⟩ ?_
 rintro ⟨i,zs⟩ ⟨hi,hzl,hv⟩
 dsimp only at hi hzl hv⊢
 refine xG ?_
 refine aw_cond eE (fun hb1=> ?_) (fun hb1=> ?_)
 ·have hi1:i<xs.length:=dT hb1
  have hxi:=getD_lt hx i
  have hxj:=getD_lt hx (i+1)
  refine xG ?_
  refine aw_callq (word_fa xs i hx) rfl rfl rfl eL ?_
  refine xSG ?_
  refine aw_callq (word_fa xs (i+1) hx) rfl rfl rfl eL ?_
  refine xSG ?_
  rw [shl_u64_32 _ hxj,or_u64_join' _ _ hxj hxi]
  refine xG ?_
  rw [shr_u64 _ n om,wrap_u32_nat]
  have hr:=rgt_getD n xs i hi1
  rw [Nat.add_comm (xs.getD i 0)] at hr
  refine xW ?_
  refine xS ?_
  rw [updF_wf om]
  refine xG ?_
  refine aw_stop ⟨(i+1,_),by dsimp only;omega,eB,zZ,by dsimp only;omega,by simpa using hzl,fun j hj=> ?_⟩
  dsimp only at hj⊢
  by_cases e:j=i
  ·rw [e,PN.getD_set om,hr]
  ·rw [PN.getD_set_ne om];exact hv j om
 ·have hi1:i=xs.length:=dF hb1
  subst hi1
  refine xGT hC ?_
  refine .one (.c (ler_oslws eE om (rgt_length n xs).symm (fun j hj=> ?_)))
  rw [Nat.zero_add,wf_at,hv j hj]
end Go.Proofs.YtefekdejgbceiaaGreat
namespace Go.Proofs.YtefekdejgbceiaaGreat
open Go.AI Go.PN
attribute [local irreducible] aw Fa Fh DrK
theorem cmp_fa (xs ys:List Nat) (hx:∀x∈xs,x<4294967296) (hy:∀x∈ys,x<4294967296) (hlx:xs.length≤68719476736) (hly:ys.length≤68719476736):
  Fa Tryz.prog 124 [.c (ws false xs),.c (ws false ys)] (.c (.int .i64 (cmpN (val xs) (val ys)))):=by
 refine fa_of_body Tryz.func124 rfl rfl (by simp [Tryz.ntmps124]) fun C hC=> ?_
 simp only [initS,Nat.reduceAdd]
 refine xG ?_
 refine aw_callq (trim_fa xs hx om) rfl rfl rfl eL ?_
 refine xSG ?_
 refine aw_callq (trim_fa ys hy om) rfl rfl rfl eL ?_
 refine xS ?_
 generalize hvx:val xs=a
 generalize hvy:val ys=b
 have hla:(words a).length≤68719476736:=by rw [←hvx];exact Nat.le_trans (words_val_len xs hx) hlx
 have hlb:(words b).length≤68719476736:=by rw [←hvy];exact Nat.le_trans (words_val_len ys hy) hly
 refine xG ?_
 refine aw_cond eE (fun hb=> ?_) (fun hb=> ?_)
 ·have hne:(words a).length≠(words b).length:=by simp at hb;omega
  refine xG ?_
  refine aw_cond eE (fun hb=> ?_) (fun hb=> ?_)
  ·have hlt:(words a).length<(words b).length:=by simpa using hb
   refine xGT hC ?_
   exact .one (.c (ler_int (cmpN_len_lt hlt).symm))
  ·have hge:¬((words a).length:Int)<(words b).length:=by simpa using hb
   refine xGT hC ?_
   exact .one (.c (ler_int (cmpN_len_gt om).symm))
 ·have hlen:(words a).length=(words b).length:=by simp at hb;omega
  refine xG ?_
  refine aw_lp (fun m:Nat=>[(0,.c (ws true (words a))),(1,.c (ws true (words b))),(5,.c (.int .i64 ((m:Int)-1)))]) (fun _=>[]) (fun m=>m≤(words a).length∧(words a).drop m=(words b).drop m) id (words a).length eB zZ
   ⟨Nat.le_refl _,by rw [List.drop_eq_nil_of_le (Nat.le_refl _),List.drop_eq_nil_of_le om]⟩ ?_
  rintro m ⟨hm,hd⟩
  refine xG ?_
  refine aw_cond eE (fun hb=> ?_) (fun hb=> ?_)
  ·have hm1:1≤m:=dT hb
   have e1:((m:Int)-1).toNat=m-1:=by omega
   refine xG ?_
   refine aw_dr 9 ty_mixed (by kernel_rfl) ?_
   refine xG ?_
   refine aw_cond eE (fun hb=> ?_) (fun hb1=> ?_)
   ·have hlt:(words a).getD (m-1) 0<(words b).getD (m-1) 0:=dT hb
    refine xGT hC ?_
    have:=word_lt (words_lt a) (words_lt b) om om (by rw [show m-1+1=m from by omega];exact hd) hlt
    rw [val_words,val_words] at this
    exact .one (.c (ler_int (by simp [cmpN,this])))
   ·have hge:¬((words a).getD (m-1) 0<(words b).getD (m-1) 0):=dF hb1
    refine xG ?_
    refine aw_dr 9 ty_mixed (by kernel_rfl) ?_
    refine xG ?_
    refine aw_cond eE (fun hb=> ?_) (fun hb2=> ?_)
    ·have hgt:(words b).getD (m-1) 0<(words a).getD (m-1) 0:=dT hb
     refine xGT hC ?_
     have:=word_lt (words_lt b) (words_lt a) om om (by rw [show m-1+1=m from by omega];exact hd.symm) hgt
     rw [val_words,val_words] at this
     exact .one (.c (ler_int (by unfold cmpN;rw [if_neg om,if_neg om])))
    ·have hle:¬((words b).getD (m-1) 0<(words a).getD (m-1) 0):=dF hb2
     refine xG ?_
     refine aw_stop ⟨m-1,by simp only [id];omega,eB,zZ,by omega,?_⟩
     rw [drop_getD (words a) (i:=m-1) om,drop_getD (words b) (i:=m-1) om,show m-1+1=m from by omega,hd]
     congr 1
     omega
  ·have hm0:m=0:=dF hb
   subst hm0
   refine xGT hC ?_
   have:a=b:=words_inj (by simpa using hd)
   exact .one (.c (ler_int (by simp [cmpN,this])))
theorem of_fa (n:Int) (h0: -9223372036854775808≤n) (h1:n≤9223372036854775807):Fa Tryz.prog 131 [.c (.int .i64 n)] (.c (ws true (words n.toNat))):=by
 refine fa_of_body Tryz.func131 rfl rfl (by simp [Tryz.ntmps131]) fun C hC=> ?_
 simp only [initS,Nat.reduceAdd]
 refine xG ?_
 refine aw_cond eE (fun hb=> ?_) (fun hb=> ?_)
 ·have hn:n≤0:=of_decide_eq_true hb
  refine xGT hC ?_
  rw [show n.toNat=0 from by omega,words_zero]
  exact .one (.c .nils)
 ·have hn:¬n≤0:=of_decide_eq_false hb
  refine xG ?_
  have e1:wrapZ .u32 n=((n.toNat%4294967296:Nat):Int):=by rw [wrapZ_eq,IntKind.wrap_u32];omega
  have e2:wrapZ .u32 (n/4294967296)=((n.toNat/4294967296:Nat):Int):=by rw [wrapZ_eq,IntKind.wrap_u32];omega
  rw [e1,e2]
  refine aw_buildSlice (xs:=[.tmp 6,.tmp 9]) (cells:=[.int .u32 ((n.toNat%4294967296:Nat):Int),.int .u32 ((n.toNat/4294967296:Nat):Int)]) rfl rfl rfl ty_e_ws (by rw [envP,ty_z_u32];rfl) rfl om om (by intro x hx;simp only [List.mem_cons,List.not_mem_nil,or_false] at hx;rcases hx with rfl|rfl<;>exact⟨rfl,rfl,rfl⟩) eE fun g hg=> ?_
  refine xS ?_
  refine aw_callq (trim_fa [n.toNat%4294967296,n.toNat/4294967296] (by intro x hx;simp only [List.mem_cons,List.not_mem_nil,or_false] at hx;rcases hx with rfl|rfl<;>omega) (by simp)) rfl rfl rfl
   (by refine xS ?_;exact .c (lec_oslws eE om rfl (fun j hj=>by match j,hj with|0,_=>rfl|1,_=>rfl))) ?_
  refine xSGT hC ?_
  rw [show val [n.toNat%4294967296,n.toNat/4294967296]=n.toNat from by simp [val];omega]
  exact .one (.c ler_ws)
end Go.Proofs.YtefekdejgbceiaaGreat
namespace Go.Proofs.YtefekdejgbceiaaGreat
open Go.AI Go.PN
attribute [local irreducible] aw Fa Fh DrK
theorem wrap_subD {x y b:Nat} (hx:x<4294967296) (hy:y<4294967296) (hb:b≤1):wrapZ .u64 (wrapZ .u64 ((x:Int)-(y:Int))-(b:Int))=((subD x y b:Nat):Int):=by
 rw [wrapZ_eq,wrapZ_eq,IntKind.wrap_u64,IntKind.wrap_u64];unfold subD
 rcases Nat.lt_or_ge x y with h|h
 ·have e:((x:Int)-y)%18446744073709551616=x-y+18446744073709551616:=by omega
  rw [e];omega
 ·have e:((x:Int)-y)%18446744073709551616=x-y:=by omega
  rw [e];omega
theorem sub_fa (xs ys:List Nat) (hx:∀x∈xs,x<4294967296) (hy:∀x∈ys,x<4294967296) (hlx:xs.length≤68719476736) (hly:ys.length≤68719476736) (hle:val ys≤val xs):
  Fa Tryz.prog 147 [.c (ws false xs),.c (ws false ys)] (.tup [.c (ws true (words (val xs-val ys))),.c .nilI]):=by
 refine fa_of_body Tryz.func147 rfl rfl (by simp [Tryz.ntmps147]) fun C hC=> ?_
 simp only [initS,Nat.reduceAdd]
 refine xG ?_
 refine aw_callq (cmp_fa xs ys hx hy hlx hly) rfl rfl rfl eL ?_
 refine xSG ?_
 refine aw_cond eE (fun hb=> ?_) (fun _=> ?_)
 ·have:=of_decide_eq_true hb
  unfold cmpN at this
  split at this
  ·omega
  ·split at this<;>omega
 refine xG ?_
 refine aw_make (n:=xs.length) (c:=xs.length) rfl rfl rfl ty_e_ws ty_z_u32 rfl om eE eE rfl rfl om om om fun g hg=> ?_
 rw [make_wf xs.length]
 refine xSG ?_
 refine aw_lp (fun x:Nat×Nat×List Nat=>[(0,.c (ws false xs)),(1,.c (ws false ys)),(6,.c (.osl g 1 0 xs.length)),(7,.c (.int .u64 x.2.1)),(19,.c (.int .i64 xs.length)),(20,.c (.int .i64 x.1))]) (fun x=>[(g,.cells 139 xs.length (wf x.2.2))])
  (fun x=>x.1≤xs.length∧x.2.1≤1∧x.2.2.length=xs.length∧(∀y∈x.2.2,y<4294967296)∧val (x.2.2.take x.1)+val (ys.take x.1)=val (xs.take x.1)+4294967296^x.1*x.2.1) (fun x=>xs.length-x.1) (0,0,List.replicate xs.length 0) eB zZ
  ⟨Nat.zero_le _,Nat.zero_le _,by simp,replicate_lt _,by simp [val]⟩ ?_
 rintro ⟨i,b,zs⟩ ⟨hi,hbb,hzl,hz,hv⟩
 dsimp only at hi hbb hzl hz hv⊢
 refine xG ?_
 refine aw_cond eE (fun hb=> ?_) (fun hb=> ?_)
 ·have hin:i<xs.length:=dT hb
  have hxi:=getD_lt hx i
  have hyi:=getD_lt hy i
  refine xG ?_
  refine aw_callq (word_fa xs i hx) rfl rfl rfl eL ?_
  refine xSG ?_
  refine aw_callq (word_fa ys i hy) rfl rfl rfl eL ?_
  refine xS ?_
  (refine aw_2q false rfl (fun R hR=> ?_);simp only [go_sem];(with_reducible refine hR _ _ ?_ ?_);(focus (((try simp only [inRange])<;>and_intros<;>first|exact True.intro|omega|trivial);done));clear hR R)
  refine xG ?_
  (refine aw_2q false rfl (fun R hR=> ?_);simp only [go_sem];(with_reducible refine hR _ _ ?_ ?_);(focus (((try simp only [inRange])<;>and_intros<;>first|exact True.intro|omega|trivial);done));clear hR R)
  rw [wrap_subD hxi hyi hbb]
  obtain⟨st1,st2⟩:=sub_step (zs:=zs) om hxi hyi hbb hv
  generalize subD (xs.getD i 0) (ys.getD i 0) b=D at st1 st2⊢
  obtain⟨v,b2,e1,e2,hvl,st⟩:∃v b2:Nat,wrapZ .u32 (D:Int)=(v:Int)∧shrZ .u64 (D:Int) 63=(b2:Int)∧v<4294967296∧(val ((zs.set i v).take (i+1))+val (ys.take (i+1))=val (xs.take (i+1))+4294967296^(i+1)*b2∧b2≤1):=
   ⟨_,_,wrap_u32_nat D,shr63_nat D,Nat.mod_lt _ om,st1,st2⟩
  clear st1 st2
  refine xG ?_
  rw [e1]
  refine xW ?_
  refine xS ?_
  rw [updF_wf om]
  apply aw_ops_nil
  apply aw_region
  refine xO ?_
  refine xO ?_
  rw [e2]
  refine xG ?_
  refine aw_stop ⟨(i+1,b2,zs.set i v),by dsimp only;omega,eB,zZ,by dsimp only;omega,st.2,by simpa using hzl,set_lt hz hvl,st.1⟩
 ·have hin:i=xs.length:=dF hb
  subst hin
  refine xG ?_
  refine aw_callq (trim_fa zs hz om) rfl rfl rfl (by refine xS ?_;exact .c (lec_oslws eE om om (fun j _=>by rw [Nat.zero_add];rfl))) ?_
  refine xSGT hC ?_
  rw [sub_end hx hz hzl hle hv]
  exact .tup ⟨.c ler_ws,.c .nilI,trivial⟩
theorem mul_fa (xs ys:List Nat) (hx:∀x∈xs,x<4294967296) (hy:∀x∈ys,x<4294967296) (hlx:xs.length≤68719476736) (hly:ys.length≤68719476736):
  Fa Tryz.prog 92 [.c (ws false xs),.c (ws false ys)] (.c (ws true (words (val xs*val ys)))):=by
 refine fa_of_body Tryz.func92 rfl rfl (by simp [Tryz.ntmps92]) fun C hC=> ?_
 simp only [initS,Nat.reduceAdd]
 refine xG ?_
 have hn0:(xs.length:Int)+(ys.length:Int)=((xs.length+ys.length:Nat):Int):=by omega
 rw [hn0]
 generalize hn:xs.length+ys.length=n
 refine aw_make (n:=n) (c:=n) rfl rfl rfl ty_e_ws ty_z_u32 rfl om eE eE rfl rfl om om om fun g hg=> ?_
 rw [make_wf n]
 refine xSG ?_
 refine aw_lp (fun x:Nat×List Nat=>[(0,.c (ws false xs)),(1,.c (ws false ys)),(5,.c (.osl g 1 0 n)),(17,.c (ws false xs)),(18,.c (.int .i64 xs.length)),(19,.c (.int .i64 x.1))]) (fun x=>[(g,.cells 139 n (wf x.2))])
  (fun x=>x.1≤xs.length∧x.2.length=n∧(∀y∈x.2,y<4294967296)∧val x.2=val (xs.take x.1)*val ys) (fun x=>xs.length-x.1) (0,List.replicate n 0) eB zZ
  ⟨Nat.zero_le _,by simp,replicate_lt _,by simp [val,val_replicate]⟩ ?_
 rintro ⟨i,z0⟩ ⟨hi,hzl0,hz0,hv0⟩
 dsimp only at hi hzl0 hz0 hv0⊢
 refine xG ?_
 refine aw_cond eE (fun hb=> ?_) (fun hb=> ?_)
 ·have hin:i<xs.length:=dT hb
  have hxi:=getD_lt hx i
  have hz0':val z0<4294967296^(i+ys.length):=by
   rw [hv0,Nat.pow_add]
   exact Nat.mul_lt_mul_of_lt_of_lt (val_take_lt xs hx i om) (val_lt ys hy)
  refine xG ?_
  generalize hxx:xs.getD i 0=x at*
  refine aw_lp (fun s:Nat×Nat×List Nat=>[(0,.c (ws false xs)),(1,.c (ws false ys)),(5,.c (.osl g 1 0 n)),(6,.c (.int .i64 i)),(7,.c (.int .u32 x)),(8,.c (.int .u64 s.2.1)),(17,.c (ws false xs)),(18,.c (.int .i64 xs.length)),(19,.c (.int .i64 i)),(24,.c (ws false ys)),(25,.c (.int .i64 ys.length)),(26,.c (.int .i64 s.1))]) (fun s=>[(g,.cells 139 n (wf s.2.2))])
   (fun s=>s.1≤ys.length∧s.2.1<4294967296∧s.2.2.length=n∧(∀y∈s.2.2,y<4294967296)∧(∀j,i+s.1≤j→s.2.2.getD j 0=z0.getD j 0)∧val s.2.2+4294967296^(i+s.1)*s.2.1=val z0+4294967296^i*(x*val (ys.take s.1))) (fun s=>ys.length-s.1) (0,0,z0) eB zZ
   ⟨Nat.zero_le _,by simp,hzl0,hz0,fun _ _=>rfl,by simp [val]⟩ ?_
  rintro ⟨k,c,zs⟩ ⟨hk,hc,hzl,hz,hzz,hv⟩
  dsimp only at hk hc hzl hz hzz hv⊢
  refine xG ?_
  refine aw_cond eE (fun hb=> ?_) (fun hb=> ?_)
  ·have hkn:k<ys.length:=dT hb
   have hyk:=getD_lt hy k
   have hzk:=getD_lt hz (i+k)
   have hst:=mul_step (ys:=ys) (x:=x) (zs:=zs) (c:=c) om hv
   have hmb:=mul_bound hxi hyk
   have hmb2:(0:Int)≤(x:Int)*((ys.getD k 0:Nat):Int)∧(x:Int)*((ys.getD k 0:Nat):Int)≤18446744065119617025:=by rw [←Int.natCast_mul];omega
   refine xG ?_
   have ew:(c:Int)+((x:Int)*((ys.getD k 0:Nat):Int)+((zs.getD (i+k) 0:Nat):Int))=((c+(x*ys.getD k 0+zs.getD (i+k) 0):Nat):Int):=by simp
   rw [ew,wrap_u32_nat]
   refine xW ?_
   refine xS ?_
   rw [updF_wf om]
   refine xG ?_
   refine aw_stop ⟨(k+1,(c+(x*ys.getD k 0+zs.getD (i+k) 0))/4294967296,zs.set (i+k) ((c+(x*ys.getD k 0+zs.getD (i+k) 0))%4294967296)),by dsimp only;omega,eB,zZ,by dsimp only;omega,by dsimp only;omega,by simpa using hzl,set_lt hz om,fun j hj=> ?_,hst⟩
   dsimp only at hj⊢
   rw [Go.PN.getD_set_ne om]
   exact hzz j om
  ·have hkn:k=ys.length:=dF hb
   subst hkn
   refine xG ?_
   rw [wrap_u32_nat,Nat.mod_eq_of_lt hc]
   refine xW ?_
   refine xS ?_
   rw [updF_wf om]
   refine xG ?_
   have h0:zs.getD (i+ys.length) 0=0:=by rw [hzz _ (Nat.le_refl _)];exact getD_zero_of_lt hz0' (Nat.le_refl _)
   have h1:=val_set (zs:=zs) (j:=i+ys.length) (v:=c) om
   rw [h0,Nat.mul_zero,Nat.add_zero,hv,List.take_length,hv0] at h1
   refine aw_stop ⟨(i+1,zs.set (i+ys.length) c),by dsimp only;omega,eB,zZ,by dsimp only;omega,by simpa using hzl,set_lt hz hc,?_⟩
   dsimp only
   rw [h1,val_take_succ,hxx,Nat.add_mul,Nat.mul_assoc]
 ·have hin:i=xs.length:=dF hb
  subst hin
  refine xG ?_
  refine aw_callq (trim_fa z0 hz0 om) rfl rfl rfl (by refine xS ?_;exact .c (lec_oslws eE om om (fun j _=>by rw [Nat.zero_add];rfl))) ?_
  refine xSGT hC ?_
  rw [hv0,List.take_length]
  exact .one (.c ler_ws)
end Go.Proofs.YtefekdejgbceiaaGreat
namespace Go.Proofs.YtefekdejgbceiaaGreat
open Go.AI Go.PN
attribute [local irreducible] aw Fa Fh DrK
theorem take_fh (g off L n:Nat) (ys us vs:List Nat) (hus:us=(ys.drop off).take L) (hL:off+L≤ys.length) (hy:∀x∈ys,x<4294967296) (hv:∀x∈vs,x<4294967296) (hly:ys.length≤68719476738) (hn:n<4294967296) (hvl:vs.length<L):
  Fh Tryz.prog 158 [(g,.cells 139 ys.length (wf ys))] [.c (.osl g 1 off L),.c (ws false vs),.c (.int .u64 n)]
   (fun r h=>∃(b:Nat) (zs:List Nat),r=.c (.bool ((b:Int)==1))∧h=[(g,.cells 139 ys.length (wf (win ys off zs)))]∧zs.length=L∧(∀y∈zs,y<4294967296)∧b≤1∧val zs+n*val vs=val us+4294967296^L*b):=by
 refine fh_of_body Tryz.func158 rfl rfl (by simp [Tryz.ntmps158]) fun C hC=> ?_
 have hu:∀x∈us,x<4294967296:=fun x hx=>hy x (List.mem_of_mem_drop (List.mem_of_mem_take (hus▸hx)))
 have hul:us.length=L:=by rw [hus];simp;omega
 have hself:win ys off us=ys:=by rw [hus];exact win_self hL
 simp only [initS,Nat.reduceAdd]
 refine xG ?_
 refine aw_lp (fun x:Nat×Nat×Nat×List Nat=>[(0,.c (.osl g 1 off L)),(1,.c (ws false vs)),(2,.c (.int .u64 n)),(7,.c (.int .u64 x.2.1)),(8,.c (.int .u64 x.2.2.1)),(12,.c (.int .i64 L)),(13,.c (.int .i64 x.1))]) (fun x=>[(g,.cells 139 ys.length (wf (win ys off x.2.2.2)))])
  (fun x=>x.1≤L∧x.2.1<4294967296∧x.2.2.1≤1∧x.2.2.2.length=L∧(∀y∈x.2.2.2,y<4294967296)∧(∀j,x.1≤j→x.2.2.2.getD j 0=us.getD j 0)∧(vs.length<x.1→x.2.1=0)∧val (x.2.2.2.take x.1)+n*val (vs.take x.1)=val (us.take x.1)+4294967296^x.1*(x.2.1+x.2.2.1)) (fun x=>L-x.1) (0,0,0,us) eB (by rw [hself];exact zZ)
  ⟨Nat.zero_le _,by simp,Nat.zero_le _,hul,hu,fun _ _=>rfl,fun _=>rfl,by simp [val]⟩ ?_
 rintro ⟨i,c,b,zs⟩ ⟨hi,hc,hbb,hzl,hz,hsame,hc0,hval⟩
 dsimp only at hi hc hbb hzl hz hsame hc0 hval⊢
 refine xG ?_
 refine aw_cond eE (fun hb=> ?_) (fun hb=> ?_)
 ·have hin:i<L:=dT hb
  have hui:=getD_lt hu i
  have hvi:=getD_lt hv i
  have hwi:(win ys off zs).getD (off+i) 0=us.getD i 0:=by rw [win_getD om om,hsame i (Nat.le_refl _)]
  obtain⟨hcl,hcq⟩:=take_carry hc hn hvi
  refine xG ?_
  refine aw_callq (word_fa vs i hv) rfl rfl rfl eL ?_
  refine xSG ?_
  obtain⟨st1,st2⟩:=take_step (zs:=zs) (n:=n) (vs:=vs) om hui hbb hval
  have hT:(c:Int)+(n:Int)*((vs.getD i 0:Nat):Int)=((c+n*vs.getD i 0:Nat):Int):=by rw [Int.natCast_add,Int.natCast_mul]
  have hc2:vs.length<i+1→(c+n*vs.getD i 0)/4294967296=0:=fun hlt=>by rw [getD_ge om];omega
  rw [hwi,hT]
  generalize c+n*vs.getD i 0=T at hcl hcq st1 st2 hc2⊢
  have hTm:T%4294967296<4294967296:=Nat.mod_lt _ om
  rw [wrap_u32_nat]
  refine xO ?_
  (refine aw_2q false rfl (fun R hR=> ?_);simp only [go_sem];(with_reducible refine hR _ _ ?_ ?_);(focus (((try simp only [inRange])<;>and_intros<;>first|exact True.intro|omega|trivial);done));clear hR R)
  refine xO ?_
  (refine aw_2q false rfl (fun R hR=> ?_);simp only [go_sem];(with_reducible refine hR _ _ ?_ ?_);(focus (((try simp only [inRange])<;>and_intros<;>first|exact True.intro|omega|trivial);done));clear hR R)
  rw [wrap_subD hui hTm hbb]
  generalize subD (us.getD i 0) (T%4294967296) b=D at st1 st2⊢
  obtain⟨v,b2,e1,e2,hvl,st⟩:∃v b2:Nat,wrapZ .u32 (D:Int)=(v:Int)∧shrZ .u64 (D:Int) 63=(b2:Int)∧v<4294967296∧(val ((zs.set i v).take (i+1))+n*val (vs.take (i+1))=val (us.take (i+1))+4294967296^(i+1)*(T/4294967296+b2)∧b2≤1):=
   ⟨_,_,wrap_u32_nat D,shr63_nat D,Nat.mod_lt _ om,st1,st2⟩
  clear st1 st2
  refine xG ?_
  rw [e1]
  refine xW ?_
  refine xS ?_
  rw [updF_wf (by rw [win_length om];omega),win_set om om]
  refine xG ?_
  rw [e2,nat_div_32]
  refine aw_stop ⟨(i+1,T/4294967296,b2,zs.set i v),by dsimp only;omega,eB,zZ,by dsimp only;omega,hcq,st.2,by simpa using hzl,set_lt hz hvl,fun j hj=> ?_,hc2,st.1⟩
  dsimp only at hj⊢
  rw [PN.getD_set_ne om];exact hsame j om
 ·have hin:i=L:=dF hb
  subst hin
  refine xGU ?_
  rw [hc0 hvl,List.take_of_length_le (show zs.length≤i from by omega),List.take_of_length_le (show vs.length≤i from by omega),List.take_of_length_le (show us.length≤i from by omega),Nat.zero_add] at hval
  exact⟨b,zs,rfl,rfl,hzl,hz,hbb,hval⟩
theorem give_fh (g off L:Nat) (ys us vs:List Nat) (hus:us=(ys.drop off).take L) (hL:off+L≤ys.length) (hy:∀x∈ys,x<4294967296) (hv:∀x∈vs,x<4294967296) (hly:ys.length≤68719476738) (hvl:vs.length<L):
  Fh Tryz.prog 159 [(g,.cells 139 ys.length (wf ys))] [.c (.osl g 1 off L),.c (ws false vs)]
   (fun r h=>∃(c:Nat) (zs:List Nat),r=.tup []∧h=[(g,.cells 139 ys.length (wf (win ys off zs)))]∧zs.length=L∧(∀y∈zs,y<4294967296)∧val zs+4294967296^L*c=val us+val vs):=by
 refine fh_of_body Tryz.func159 rfl rfl (by simp [Tryz.ntmps159]) fun C hC=> ?_
 have hu:∀x∈us,x<4294967296:=fun x hx=>hy x (List.mem_of_mem_drop (List.mem_of_mem_take (hus▸hx)))
 have hul:us.length=L:=by rw [hus];simp;omega
 have hself:win ys off us=ys:=by rw [hus];exact win_self hL
 simp only [initS,Nat.reduceAdd]
 refine xG ?_
 refine aw_lp (fun x:Nat×Nat×List Nat=>[(0,.c (.osl g 1 off L)),(1,.c (ws false vs)),(4,.c (.int .u64 x.2.1)),(7,.c (.int .i64 L)),(8,.c (.int .i64 x.1))]) (fun x=>[(g,.cells 139 ys.length (wf (win ys off x.2.2)))])
  (fun x=>x.1≤L∧x.2.1≤1∧x.2.2.length=L∧(∀y∈x.2.2,y<4294967296)∧(∀j,x.1≤j→x.2.2.getD j 0=us.getD j 0)∧val (x.2.2.take x.1)+4294967296^x.1*x.2.1=val (us.take x.1)+val (vs.take x.1)) (fun x=>L-x.1) (0,0,us) eB (by rw [hself];exact zZ)
  ⟨Nat.zero_le _,Nat.zero_le _,hul,hu,fun _ _=>rfl,by simp [val]⟩ ?_
 rintro ⟨i,c,zs⟩ ⟨hi,hc,hzl,hz,hsame,hval⟩
 dsimp only at hi hc hzl hz hsame hval⊢
 refine xG ?_
 refine aw_cond eE (fun hb=> ?_) (fun hb=> ?_)
 ·have hin:i<L:=dT hb
  have hui:=getD_lt hu i
  have hvi:=getD_lt hv i
  have hwi:(win ys off zs).getD (off+i) 0=us.getD i 0:=by rw [win_getD om om,hsame i (Nat.le_refl _)]
  refine xG ?_
  refine aw_dr 12 ty_mixed (by kernel_rfl) ?_
  refine xO ?_
  refine xO ?_
  refine xO ?_
  refine xO ?_
  refine xO ?_
  rw [hwi]
  refine xG ?_
  refine drk_call (word_fa vs i hv) rfl rfl rfl eL ?_
  refine xSG ?_
  have ew:wrapZ .u32 ((c:Int)+(((us.getD i 0:Nat):Int)+((vs.getD i 0:Nat):Int)))=(((c+(us.getD i 0+vs.getD i 0))%4294967296:Nat):Int):=by rw [wrapZ_eq,IntKind.wrap_u32];omega
  rw [ew]
  refine xW ?_
  refine xS ?_
  rw [updF_wf (by rw [win_length om];omega),win_set om om]
  refine xG ?_
  refine aw_stop ⟨(i+1,(c+(us.getD i 0+vs.getD i 0))/4294967296,zs.set i ((c+(us.getD i 0+vs.getD i 0))%4294967296)),by dsimp only;omega,eB,zZ,by dsimp only;omega,by dsimp only;omega,by simpa using hzl,set_lt hz om,fun j hj=> ?_,add_step om hval⟩
  dsimp only at hj⊢
  rw [PN.getD_set_ne om];exact hsame j om
 ·have hin:i=L:=dF hb
  subst hin
  refine xG ?_
  refine xV ?_
  rw [List.take_of_length_le (show zs.length≤i from by omega),List.take_of_length_le (show vs.length≤i from by omega),List.take_of_length_le (show us.length≤i from by omega)] at hval
  exact⟨c,zs,rfl,rfl,hzl,hz,hval⟩
end Go.Proofs.YtefekdejgbceiaaGreat
namespace Go.AI
def bitlen (n:Nat):Nat:=if n=0 then 0 else Nat.log2 n+1
theorem POk.indexStr {P:Program} {h:Heap} {ρ:Operand→AV} {t:TypeId} {x ix:Operand} {s:ByteArray} {k:IntKind} {i:Nat} {b:UInt8} (ht:P.underlying t=some .string) (hx:ρ x=.c (.str s)) (hi:ρ ix=.c (.int k (i:Int))) (hb:s[i]?=some b):
  POk P h ρ (.index t x ix) (.c (.int .u8 (b.toNat:Nat))):=fun S w e _ ho _=>by
 have h1:e x=.string s:=by have:=ho x (by simp [Op.operands]);rw [hx] at this;exact this
 have h2:e ix=.int k i:=by have:=ho ix (by simp [Op.operands]);rw [hi] at this;exact this
 refine⟨.int .u8 (b.toNat:Nat),fun o hop=> ?_,rfl⟩
 simp [execOp,hop,h1,h2,Instr.index,asIntOf,run_underlying ht,hb]
theorem aw_idx {E:Env} {K:List It} {σ:Sl} {h:Heap} {all rest:List Oper} {o:Oper} {t:TypeId} {x ix:Operand} {s:ByteArray} {k:IntKind} {i:Nat} (hop:o.op=.index t x ix) (hw:wantA all σ o=some true) (hd:dstOk E.N o.dst=true) (ht:E.P.underlying t=some .string)
  (hx:ev σ x=.c (.str s)) (hi:ev σ ix=.c (.int k (i:Int))) (htab:∀j,j<256→(s[j]?).map UInt8.toNat=some (bitlen j)) (hlt:i<256) (kk:aw E (.ops all rest::K) (σ.setO o.dst (.c (.int .u8 (bitlen i:Nat)))) h):aw E (.ops all (o::rest)::K) σ h:=by
 have h1:=htab i hlt
 cases hs:s[i]? with
 |none=>rw [hs] at h1;cases h1
 |some b=>
  rw [hs] at h1
  injection h1 with h1
  rw [←h1] at kk
  exact aw_pure hw (by rw [hop];exact POk.indexStr ht hx hi hs) hd rfl kk
theorem shr_u32_16 (x:Nat):shrZ .u32 (x:Int) 16=((x/65536:Nat):Int):=by
 rw [shrZ_eq]
 show(x:Int).fdiv 65536=_
 rw [Int.fdiv_eq_ediv_of_nonneg _ om];omega
theorem shr_u32_8 (x:Nat):shrZ .u32 (x:Int) 8=((x/256:Nat):Int):=by
 rw [shrZ_eq]
 show(x:Int).fdiv 256=_
 rw [Int.fdiv_eq_ediv_of_nonneg _ om];omega
theorem bitlen_div {x k:Nat} (hx:2^k≤x):bitlen x=k+bitlen (x/2^k):=by
 have hp:=Nat.two_pow_pos k
 have h0:x≠0:=by omega
 have h1:x/2^k≠0:=by have:=Nat.div_pos hx hp;omega
 unfold bitlen
 rw [if_neg h0,if_neg h1]
 have:Nat.log2 x=Nat.log2 (x/2^k)+k:=by
  clear h1
  induction k generalizing x with
  |zero=>simp
  |succ k ih=>
   have e2:2≤x:=by have:2^1≤2^(k+1):=Nat.pow_le_pow_right om om;omega
   rw [Nat.log2_def,if_pos e2]
   have hk:2^k≤x/2:=by rw [Nat.pow_succ] at hx;omega
   rw [ih hk (Nat.two_pow_pos k) (by have:=Nat.two_pow_pos k;omega),Nat.div_div_eq_div_mul,Nat.pow_succ,Nat.mul_comm 2]
   omega
 omega
end Go.AI
namespace Go.Proofs.YtefekdejgbceiaaGreat
open Go.AI Go.PN
attribute [local irreducible] aw Fa Fh DrK
theorem ty_str:Tryz.prog.underlying 9=some .string:=by kernel_rfl
@[go_sem] theorem ty_i_u8:tInt Tryz.prog 5=some .u8:=by kernel_rfl
theorem wrap_u8_nat {n:Nat} (h:n<256):wrapZ .u8 (n:Int)=(n:Int):=by
 rw [wrapZ_eq];exact wrap_inRange (k:=.u8) ⟨by omega,by omega⟩
theorem bitlen_le8:∀j,j<256→bitlen j≤8:=by decide+kernel
theorem len32_fa (x:Nat) (hx:x<4294967296):Fa Tryz.prog 154 [.c (.int .u32 x)] (.c (.int .i64 (bitlen x:Nat))):=by
 refine fa_of_body Tryz.func154 rfl rfl (by simp [Tryz.ntmps154]) fun C hC=> ?_
 simp only [initS,Nat.reduceAdd]
 refine xG ?_
 refine aw_cond eE (fun hb=> ?_) (fun hb=> ?_)
 ·have hx1:65536≤x:=dT hb
  have e1:bitlen x=16+bitlen (x/65536):=bitlen_div (k:=16) hx1
  refine xG ?_
  rw [shr_u32_16]
  refine xG ?_
  refine aw_cond eE (fun hb=> ?_) (fun hb=> ?_)
  ·have hx2:256≤x/65536:=dT hb
   have e2:bitlen (x/65536)=8+bitlen (x/65536/256):=bitlen_div (k:=8) hx2
   have hb8:=bitlen_le8 (x/65536/256) om
   refine xG ?_
   rw [shr_u32_8]
   refine xG ?_
   rw [wrap_u8_nat (n:=x/65536/256) om]
   refine aw_idx (i:=x/65536/256) rfl rfl rfl ty_str rfl eE (by decide+kernel) om ?_
   refine xSGT hC ?_
   exact .one (.c (ler_int om))
  ·have hx2:x/65536<256:=dF hb
   have hb8:=bitlen_le8 (x/65536) om
   refine xG ?_
   rw [wrap_u8_nat (n:=x/65536) om]
   refine aw_idx (i:=x/65536) rfl rfl rfl ty_str rfl eE (by decide+kernel) om ?_
   refine xSGT hC ?_
   exact .one (.c (ler_int om))
 ·have hx1:x<65536:=dF hb
  refine xG ?_
  refine aw_cond eE (fun hb=> ?_) (fun hb=> ?_)
  ·have hx2:256≤x:=dT hb
   have e2:bitlen x=8+bitlen (x/256):=bitlen_div (k:=8) hx2
   have hb8:=bitlen_le8 (x/256) om
   refine xG ?_
   rw [shr_u32_8]
   refine xG ?_
   rw [wrap_u8_nat (n:=x/256) om]
   refine aw_idx (i:=x/256) rfl rfl rfl ty_str rfl eE (by decide+kernel) om ?_
   refine xSGT hC ?_
   exact .one (.c (ler_int om))
  ·have hx2:x<256:=dF hb
   have hb8:=bitlen_le8 x om
   refine xG ?_
   rw [wrap_u8_nat (n:=x) om]
   refine aw_idx (i:=x) rfl rfl rfl ty_str rfl eE (by decide+kernel) om ?_
   refine xSGT hC ?_
   exact .one (.c (ler_int om))
theorem bitlen_lt {x k:Nat} (h:x<2^k):bitlen x≤k:=by
 unfold bitlen
 split
 ·omega
 ·rename_i h0
  have:=(Nat.log2_lt h0).2 h
  omega
theorem lead_fa (x:Nat) (hx:x<4294967296):Fa Tryz.prog 156 [.c (.int .u32 x)] (.c (.int .i64 (32-bitlen x:Nat))):=by
 refine fa_of_body Tryz.func156 rfl rfl (by simp [Tryz.ntmps156]) fun C hC=> ?_
 simp only [initS,Nat.reduceAdd]
 have hb:bitlen x≤32:=bitlen_lt hx
 refine xG ?_
 refine aw_callq (len32_fa x hx) rfl rfl rfl eL ?_
 refine xSGT hC ?_
 exact .one (.c (ler_int om))
theorem drop_zero {xs:List Nat} {m:Nat} (h:∀j,m≤j→xs.getD j 0=0):val (xs.drop m)=0:=by
 refine val_zero fun x hx=> ?_
 obtain⟨i,hi,rfl⟩:=List.getElem_of_mem hx
 have:=h (m+i) om
 rw [List.getD_eq_getElem?_getD] at this
 simp only [List.length_drop] at hi
 simpa [show m+i<xs.length from by omega] using this
theorem bits_top {xs:List Nat} {m:Nat} (hx:∀x∈xs,x<4294967296) (hm:m<xs.length) (hz:∀j,m+1≤j→xs.getD j 0=0) (h0:xs.getD m 0≠0):bitlen (val xs)=32*m+bitlen (xs.getD m 0):=by
 have h1:=val_split xs (m+1) om
 rw [drop_zero hz,Nat.mul_zero,Nat.add_zero,val_take_succ] at h1
 have h2:=val_take_lt xs hx m om
 have hp:4294967296^m=2^(32*m):=by rw [Nat.pow_mul]
 rw [hp] at h1 h2
 have hle:2^(32*m)≤val xs:=by
  rw [h1]
  have:=Nat.mul_le_mul_left (2^(32*m)) (show 1≤xs.getD m 0 from by omega)
  omega
 rw [bitlen_div hle,h1,Nat.add_mul_div_left _ _ (Nat.two_pow_pos _),Nat.div_eq_of_lt h2,Nat.zero_add]
theorem bits_fa (xs:List Nat) (hx:∀x∈xs,x<4294967296) (hlx:xs.length≤68719476736):Fa Tryz.prog 127 [.c (ws false xs)] (.c (.int .i64 (bitlen (val xs):Nat))):=by
 refine fa_of_body Tryz.func127 rfl rfl (by simp [Tryz.ntmps127]) fun C hC=> ?_
 simp only [initS,Nat.reduceAdd]
 refine xG ?_
 refine aw_lp (fun m:Nat=>[(0,.c (ws false xs)),(3,.c (.int .i64 ((m:Int)-1)))]) (fun _=>[]) (fun m=>m≤xs.length∧(∀j,m≤j→xs.getD j 0=0)) id xs.length eB zZ ⟨Nat.le_refl _,fun j hj=>getD_ge hj⟩ ?_
 rintro m ⟨hm,hz⟩
 refine xG ?_
 refine aw_cond eE (fun hb=> ?_) (fun hb=> ?_)
 ·have hm1:1≤m:=dT hb
  have e1:((m:Int)-1).toNat=m-1:=by omega
  have hxi:=getD_lt hx (m-1)
  refine xG ?_
  refine aw_cond eE (fun hb=> ?_) (fun hb=> ?_)
  ·have h0:xs.getD (m-1) 0≠0:=by simpa using hb
   have hbt:=bits_top hx (m:=m-1) om (by rw [show m-1+1=m from by omega];exact hz) h0
   have hbl:bitlen (xs.getD (m-1) 0)≤32:=bitlen_lt hxi
   refine xG ?_
   refine aw_callq (len32_fa _ hxi) rfl rfl rfl eL ?_
   refine xSGT hC ?_
   exact .one (.c (ler_int om))
  ·have h0:xs.getD (m-1) 0=0:=by simpa using hb
   refine xG ?_
   refine aw_stop ⟨m-1,by simp only [id];omega,eB,zZ,by omega,fun j hj=> ?_⟩
   by_cases e:j=m-1
   ·rw [e];exact h0
   ·exact hz j om
 ·have hm0:m=0:=dF hb
  subst hm0
  refine xGT hC ?_
  have:=drop_zero hz
  rw [List.drop_zero] at this
  exact .one (.c (ler_int (by rw [this];rfl)))
theorem bitlen_zero {n:Nat}:bitlen n=0↔n=0:=by
 unfold bitlen;split<;>simp [*]
end Go.Proofs.YtefekdejgbceiaaGreat
namespace Go.PN
theorem val_one (x:Nat):val [x]=x:=by simp [val]
theorem val_cut {zs:List Nat} {m:Nat} (h:val zs<4294967296^m):val (zs.drop m)=0:=by
 refine val_zero fun x hx=> ?_
 obtain⟨i,hi,rfl⟩:=List.getElem_of_mem hx
 have:=getD_zero_of_lt h (show m≤m+i from by omega)
 rw [List.getD_eq_getElem?_getD] at this
 simp only [List.length_drop] at hi
 simpa [show m+i<zs.length from by omega] using this
theorem val_take_all {zs:List Nat} {k:Nat} (h:zs.length=k):val (zs.take k)=val zs:=by rw [List.take_of_length_le om]
theorem top2 {zs:List Nat} {k:Nat} (hl:zs.length=k+2):val zs=(zs.getD (k+1) 0*4294967296+zs.getD k 0)*4294967296^k+val (zs.take k):=by
 rw [←val_take_all hl,val_take_succ,val_take_succ,Nat.pow_succ,Nat.add_mul,Nat.mul_assoc,Nat.mul_comm (4294967296^k) (4294967296*zs.getD (k+1) 0),Nat.mul_comm (4294967296^k) (zs.getD k 0),Nat.mul_comm 4294967296 (zs.getD (k+1) 0)]
 omega
theorem top3 {zs:List Nat} {k:Nat} (hl:zs.length=k+3):val zs=((zs.getD (k+2) 0*4294967296+zs.getD (k+1) 0)*4294967296+zs.getD k 0)*4294967296^k+val (zs.take k):=by
 rw [←val_take_all hl,val_take_succ,val_take_succ,val_take_succ]
 generalize zs.getD (k+2) 0=a
 generalize zs.getD (k+1) 0=b
 generalize zs.getD k 0=c
 simp only [Nat.pow_succ]
 generalize 4294967296^k=D
 simp only [Nat.add_mul]
 have e1:a*4294967296*4294967296*D=D*4294967296*4294967296*a:=by rw [Nat.mul_comm (D*4294967296*4294967296) a,Nat.mul_comm D,Nat.mul_comm (4294967296*D),←Nat.mul_assoc 4294967296 4294967296 D,←Nat.mul_assoc,←Nat.mul_assoc]
 have e2:b*4294967296*D=D*4294967296*b:=by rw [Nat.mul_comm (D*4294967296) b,Nat.mul_comm D,←Nat.mul_assoc]
 have e3:c*D=D*c:=Nat.mul_comm _ _
 rw [e1,e2,e3]
 omega
theorem win_getD' {us:List Nat} {j L i:Nat} (hi:i<L):((us.drop j).take L).getD i 0=us.getD (j+i) 0:=by
 rw [getD_take hi,List.getD_eq_getElem?_getD,List.getD_eq_getElem?_getD,List.getElem?_drop]
theorem win_win {ys zs zs2:List Nat} {off:Nat} (h:off+zs.length≤ys.length) (he:zs2.length=zs.length):win (win ys off zs) off zs2=win ys off zs2:=by
 unfold win
 have h1:(ys.take off++(zs++ys.drop (off+zs.length))).take off=ys.take off:=by
  rw [List.take_append_of_le_length (by simp;omega),List.take_take,Nat.min_self]
 have h2:(ys.take off++(zs++ys.drop (off+zs.length))).drop (off+zs2.length)=ys.drop (off+zs2.length):=by
  rw [he,←List.append_assoc,List.drop_append_of_le_length (by simp;omega),List.drop_of_length_le (by simp;omega),List.nil_append]
 rw [h1,h2]
theorem win_of_win {ys zs:List Nat} {off L:Nat} (h:off+L≤ys.length) (hz:zs.length=L):zs=((win ys off zs).drop off).take L:=by
 unfold win
 rw [List.drop_append_of_le_length (by simp;omega),List.drop_of_length_le (by simp;omega),List.nil_append,List.take_append_of_le_length om,List.take_of_length_le om]
theorem window {us:List Nat} {j L V:Nat} (hu:∀x∈us,x<4294967296) (hL:j+L+1≤us.length) (hV:V<4294967296^L) (hlt:val us<V*4294967296^(j+1)):
  val us=val (us.take j)+4294967296^j*val ((us.drop j).take (L+1))∧val (us.take j)<4294967296^j∧val (us.drop (j+(L+1)))=0∧val ((us.drop j).take (L+1))<V*4294967296:=by
 have h1:val (us.drop (j+(L+1)))=0:=by
  refine val_cut (Nat.lt_of_lt_of_le hlt ?_)
  rw [show j+(L+1)=L+(j+1) from by omega,Nat.pow_add 4294967296 L (j+1)]
  exact Nat.mul_le_mul_right _ (Nat.le_of_lt hV)
 have h2:=val_split us j om
 have h3:=val_split (us.drop j) (L+1) (by simp;omega)
 rw [List.drop_drop,h1,Nat.mul_zero,Nat.add_zero] at h3
 rw [h3] at h2
 have h4:=val_take_lt us hu j om
 refine⟨h2,h4,h1,?_⟩
 rw [h2,Nat.pow_succ,Nat.mul_comm (4294967296^j) 4294967296,←Nat.mul_assoc,Nat.mul_comm (V*4294967296)] at hlt
 exact Nat.lt_of_mul_lt_mul_left (a:=4294967296^j) om
theorem head_le {W V v1 v2 vr D w0 w1 w2 wr:Nat} (hV:V=(v1*4294967296+v2)*D+vr) (hv2:v2<4294967296) (hvr:vr<D) (hW:W=((w0*4294967296+w1)*4294967296+w2)*D+wr) (hlt:W<V*4294967296):w0≤v1:=by
 rcases Nat.lt_or_ge v1 w0 with h|h
 ·exfalso
  have h1:V+1≤(v1+1)*4294967296*D:=by
   have:(v1*4294967296+v2+1)*D≤(v1+1)*4294967296*D:=Nat.mul_le_mul_right D om
   rw [Nat.add_mul,Nat.one_mul] at this
   omega
  have h2:(v1+1)*4294967296*D*4294967296≤W:=by
   have:(v1+1)*4294967296*4294967296*D≤((w0*4294967296+w1)*4294967296+w2)*D:=Nat.mul_le_mul_right D om
   rw [Nat.mul_assoc _ D,Nat.mul_comm D,←Nat.mul_assoc]
   omega
  have h3:=Nat.mul_le_mul_right 4294967296 h1
  omega
 ·exact h
theorem div_step {A V U lo W P z q j Q:Nat} (hU:U=lo+P*W) (hlo:lo<P) (hz:z+q*V=W) (hzV:z<V) (hA:A=U+V*(P*4294967296*Q)) (hP:P=4294967296^j):
  lo+P*z<V*P∧A=(lo+P*z)+V*(P*(q+4294967296*Q)):=by
 constructor
 ·have:=Nat.mul_le_mul_left P (show z+1≤V from hzV)
  rw [Nat.mul_add,Nat.mul_one,Nat.mul_comm P V] at this
  omega
 ·rw [hA,hU,←hz,Nat.mul_add,Nat.mul_add,Nat.mul_add,←Nat.mul_assoc P 4294967296 Q]
  have:P*(q*V)=V*(P*q):=by rw [←Nat.mul_assoc,Nat.mul_comm]
  omega
theorem digit_ok {W V g z P:Nat} (hV:0<V) (h1:W/V≤g) (h2:g*V<W+V) (h:z+g*V=W+P*0):z+(W/V)*V=W∧z<V∧g=W/V:=by
 have hg:g≤W/V:=(Nat.le_div_iff_mul_le hV).2 om
 have e:g=W/V:=by omega
 subst e
 have:=Nat.div_add_mod W V
 have h3:=Nat.mod_lt W hV
 rw [Nat.mul_comm] at this
 exact⟨by omega,by omega,rfl⟩
theorem digit_back {W V g z z2 P c:Nat} (hV:0<V) (hVP:V≤P) (h1:W/V≤g) (h2:g*V<W+V) (hz:z<P) (hz2:z2<P) (h:z+g*V=W+P*1) (hb:z2+P*c=z+V):1≤g∧z2+(W/V)*V=W∧z2<V∧g-1=W/V:=by
 have hmod:=Nat.div_add_mod W V
 have hlt:=Nat.mod_lt W hV
 rw [Nat.mul_comm] at hmod
 have hg:W/V+1≤g:=by
  rcases Nat.lt_or_ge (W/V) g with h|h'
  ·exact h
  ·exfalso
   have e:g=W/V:=by omega
   rw [e] at h
   omega
 have hg2:g≤W/V+1:=by
  rcases Nat.lt_or_ge (W/V+1) g with h'|h'
  ·exfalso
   have:=Nat.mul_le_mul_right V (show W/V+2≤g from h')
   rw [Nat.add_mul] at this
   omega
  ·exact h'
 have e:g=W/V+1:=by omega
 rw [e,Nat.add_mul,Nat.one_mul] at h
 have hc:z2+P*c=W%V+P:=by omega
 have hc1:c=1:=by
  rcases c with _|_|c
  ·omega
  ·rfl
  ·exfalso
   have:P*(c+1+1)=P*c+P+P:=by rw [Nat.mul_add,Nat.mul_add];omega
   omega
 subst hc1
 exact⟨by rw [e];exact Nat.le_add_left _ _,by omega,by omega,by rw [e];rfl⟩
theorem div_end {a b n U q:Nat} (hb:0<b) (hlt:U<b*2^n) (h:a*2^n=U+b*2^n*q):q=a/b∧U/2^n=a%b:=by
 have hp:=Nat.two_pow_pos n
 have hV:0<b*2^n:=Nat.mul_pos hb hp
 have h1:a*2^n/(b*2^n)=q:=by rw [h,Nat.add_mul_div_left _ _ hV,Nat.div_eq_of_lt hlt,Nat.zero_add]
 have h2:a*2^n%(b*2^n)=U:=by rw [h,Nat.add_mul_mod_self_left,Nat.mod_eq_of_lt hlt]
 rw [Nat.mul_div_mul_right _ _ hp] at h1
 rw [Nat.mul_mod_mul_right] at h2
 exact⟨h1.symm,by rw [←h2,Nat.mul_div_cancel _ hp]⟩
theorem mul4 (p q B D:Nat):p*q*B*D=p*(q*B*D):=by rw [Nat.mul_assoc,Nat.mul_assoc,Nat.mul_assoc]
theorem guess_start {V W D v1 v2 head w2 wr vr:Nat} (hV:V=(v1*4294967296+v2)*D+vr) (hv1:0<v1) (hW:W=(head*4294967296+w2)*D+wr) (hw2:w2<4294967296) (hwr:wr<D):W/V≤head/v1:=by
 have hD:0<D:=by omega
 have hV0:0<V:=by
  have:=Nat.mul_le_mul_right D (show 1≤v1*4294967296+v2 from by omega)
  omega
 have h1:head+1≤(head/v1+1)*v1:=by
  have:=Nat.div_add_mod head v1
  have h2:=Nat.mod_lt head hv1
  rw [Nat.add_mul,Nat.one_mul,Nat.mul_comm (head/v1)]
  omega
 have h2:W<(head+1)*4294967296*D:=by
  have:(head*4294967296+w2+1)*D≤(head+1)*4294967296*D:=Nat.mul_le_mul_right D om
  rw [Nat.add_mul,Nat.one_mul] at this
  omega
 have h3:(head+1)*4294967296*D≤(head/v1+1)*V:=by
  have e1:(head+1)*4294967296*D≤(head/v1+1)*v1*4294967296*D:=Nat.mul_le_mul_right D (Nat.mul_le_mul_right _ h1)
  have e0:v1*4294967296*D≤V:=by rw [hV,Nat.add_mul,Nat.add_assoc];exact Nat.le_add_right _ _
  have e2:=Nat.mul_le_mul_left (head/v1+1) e0
  rw [←mul4] at e2
  exact Nat.le_trans e1 e2
 have:W/V<head/v1+1:=(Nat.div_lt_iff_lt_mul hV0).2 om
 omega
theorem norm_top {bs vs:List Nat} {n k:Nat} (hb:∀x∈bs,x<4294967296) (hl:bs.length=k+2) (hn:n≤32) (h1:2147483648≤bs.getD (k+1) 0*2^n) (h2:bs.getD (k+1) 0*2^n<4294967296) (hv:∀x∈vs,x<4294967296) (hvl:vs.length=k+3) (hvv:val vs=val bs*2^n):
  val (vs.take (k+2))=val bs*2^n∧2147483648≤vs.getD (k+1) 0∧val bs*2^n<4294967296^(k+2):=by
 have hB:=two_pow_split hn
 have hp:=Nat.two_pow_pos n
 have e1:=val_take_succ bs (k+1)
 rw [val_take_all hl] at e1
 have e2:=val_take_lt bs hb (k+1) om
 generalize bs.getD (k+1) 0=t at*
 generalize hP:4294967296^(k+1)=P at*
 have ht:t+1≤2^(32-n):=by
  have:2^n*t<2^n*2^(32-n):=by rw [Nat.mul_comm];omega
  exact Nat.lt_of_mul_lt_mul_left this
 have hlt:val bs*2^n<P*4294967296:=by
  have a1:val bs<P*(t+1):=by rw [Nat.mul_add];omega
  have a2:=Nat.mul_lt_mul_of_pos_right a1 hp
  have a3:P*(t+1)*2^n≤P*4294967296:=by
   rw [Nat.mul_assoc]
   refine Nat.mul_le_mul_left P ?_
   rw [hB,Nat.mul_comm]
   exact Nat.mul_le_mul_left _ ht
  omega
 have hP2:4294967296^(k+2)=P*4294967296:=by rw [show k+2=(k+1)+1 from rfl,Nat.pow_succ,hP]
 have hs:=val_split vs (k+2) om
 rw [val_cut (zs:=vs) (m:=k+2) (by rw [hvv,hP2];exact hlt),Nat.mul_zero,Nat.add_zero] at hs
 refine⟨by omega,?_,by rw [hP2];exact hlt⟩
 have e3:val (vs.take (k+2))=val (vs.take (k+1))+4294967296^(k+1)*vs.getD (k+1) 0:=val_take_succ vs (k+1)
 have e4:=val_take_lt vs hv (k+1) om
 rw [hP] at e3 e4
 have hge:P*2147483648≤val bs*2^n:=by
  rw [e1,Nat.add_mul,Nat.mul_assoc]
  have:=Nat.mul_le_mul_left P h1
  omega
 have:P*2147483648<P*(vs.getD (k+1) 0+1):=by
  rw [Nat.mul_add,Nat.mul_one]
  omega
 have:=Nat.lt_of_mul_lt_mul_left this
 omega
theorem div_start {a b n la lb:Nat} (ha:a<4294967296^la) (hb:4294967296^(lb-1)≤b) (hl:lb≤la) (h0:1≤lb):a*2^n<b*2^n*4294967296^(la+1-lb):=by
 have hp:=Nat.two_pow_pos n
 have h1:4294967296^la=4294967296^(lb-1)*4294967296^(la+1-lb):=by rw [←Nat.pow_add];congr 1;omega
 have h2:=Nat.mul_le_mul_right (4294967296^(la+1-lb)) hb
 rw [←h1] at h2
 have h3:=Nat.mul_lt_mul_of_pos_right (Nat.lt_of_lt_of_le ha h2) hp
 rw [Nat.mul_right_comm]
 exact h3
end Go.PN
