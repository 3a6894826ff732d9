/- Parts of one proof, laid by a program. -/
import Derived.Test.YtfcnbgmclfkfcaaGreatM00
import Derived.Test.YtfcnbgmclfkfcaaGreatM29
set_option linter.unusedSimpArgs false
set_option linter.unusedVariables false
namespace Go.PN
open Go.AI
structure SeenOk (f:FM) (l:List Int):Prop where
 nodup:l.Nodup
 range:∀x∈l,0≤x∧x<f.vars+f.nodes.length
theorem SeenOk.len {f:FM} {l:List Int} (h:SeenOk f l) (v0:0≤f.vars):l.length≤f.vars.toNat+f.nodes.length:=by
 have:=nodup_le (m:=(List.range (f.vars.toNat+f.nodes.length)).map fun(i:Nat)=>(i:Int)) h.nodup (fun x hx=>by
  have h1:=h.range x hx
  exact List.mem_map.2 ⟨x.toNat,List.mem_range.2 om,by omega⟩)
 simpa using this
theorem SeenOk.push {f:FM} {l:List Int} (h:SeenOk f l) {a:Int} (h0:0≤a) (h1:a<f.vars+f.nodes.length) (hn:a∉l):SeenOk f (l++[a]):=by
 refine⟨?_,fun x hx=> ?_⟩
 ·rw [List.nodup_append]
  refine⟨h.nodup,by simp,fun x hx y hy=> ?_⟩
  rw [List.mem_singleton] at hy
  subst hy
  intro he
  subst he
  exact hn hx
 ·rcases List.mem_append.1 hx with hx|hx
  ·exact h.range x hx
  ·rw [List.mem_singleton] at hx;subst hx;exact⟨h0,h1⟩
structure DpOk (f:FM) (i:Nat) (e:List Int):Prop where
 nodup:e.Nodup
 range:∀x∈e,0≤x∧x<f.vars
 low:∀x:Int,0≤x→x<i→x∈e
theorem DpOk.le {f:FM} {i:Nat} {e:List Int} (h:DpOk f i e):e.length≤f.vars.toNat:=by
 have:=nodup_le (m:=(List.range f.vars.toNat).map fun(i:Nat)=>(i:Int)) h.nodup (fun x hx=>by
  have h1:=h.range x hx
  exact List.mem_map.2 ⟨x.toNat,List.mem_range.2 om,by omega⟩)
 simpa using this
theorem DpOk.skip {f:FM} {i:Nat} {e:List Int} (h:DpOk f i e) (hi:(i:Int)∈e):DpOk f (i+1) e:=
 ⟨h.nodup,h.range,fun x h0 h1=>by
  by_cases e1:x=i
  ·subst e1;exact hi
  ·exact h.low x h0 om⟩
theorem DpOk.push {f:FM} {i:Nat} {e:List Int} (h:DpOk f i e) (hi:(i:Int)<f.vars) (hn:(i:Int)∉e):DpOk f (i+1) (e++[(i:Int)]):=by
 refine⟨?_,fun x hx=> ?_,fun x h0 h1=> ?_⟩
 ·rw [List.nodup_append]
  refine⟨h.nodup,by simp,fun x hx y hy=> ?_⟩
  rw [List.mem_singleton] at hy
  subst hy
  intro he
  subst he
  exact hn hx
 ·rcases List.mem_append.1 hx with hx|hx
  ·exact h.range x hx
  ·rw [List.mem_singleton] at hx;subst hx;exact⟨by omega,hi⟩
 ·by_cases e1:x=i
  ·subst e1;simp
  ·exact List.mem_append_left _ (h.low x h0 om)
theorem DpOk.done {f:FM} {i:Nat} {e:List Int} (h:DpOk f i e) (v0:0≤f.vars) (hi:f.vars≤i):Perm0 e∧e.length=f.vars.toNat:=by
 have h1:=h.le
 have h2:=nodup_le (l:=(List.range f.vars.toNat).map fun(i:Nat)=>(i:Int)) (m:=e) (List.Pairwise.map _ (fun a b (h:a≠b) (e:(a:Int)=b)=>h om) List.nodup_range) (fun x hx=>by
  obtain⟨q,hq,rfl⟩:=List.mem_map.1 hx
  rw [List.mem_range] at hq
  exact h.low _ om om)
 rw [List.length_map,List.length_range] at h2
 have h3:e.length=f.vars.toNat:=by omega
 exact⟨⟨fun x hx=>by have:=h.range x hx;omega,h.nodup⟩,h3⟩
def RelOk (v:Nat→Bool) (n s i out:Nat):Prop:=∀j,j<n→out.testBit j=false→(∀t,t<s→v t=v (setB t j true))∧(j<i→v s=v (setB s j true))
theorem RelOk.start (v:Nat→Bool) (n:Nat):RelOk v n 0 0 0:=fun j _ _=>⟨fun t ht=>by omega,fun h=>by omega⟩
theorem RelOk.same {v:Nat→Bool} {n s i out:Nat} (h:RelOk v n s i out) (he:v s=v (setB s i true)):RelOk v n s (i+1) out:=fun j hj hb=>by
 obtain⟨h1,h2⟩:=h j hj hb
 refine⟨h1,fun hji=> ?_⟩
 by_cases e:j=i
 ·subst e;exact he
 ·exact h2 om
theorem RelOk.add {v:Nat→Bool} {n s i out:Nat} (h:RelOk v n s i out):RelOk v n s (i+1) (out|||2^i):=fun j hj hb=>by
 rw [Nat.testBit_or,Bool.or_eq_false_iff] at hb
 obtain⟨h1,h2⟩:=h j hj hb.1
 refine⟨h1,fun hji=> ?_⟩
 by_cases e:j=i
 ·subst e;rw [Nat.testBit_two_pow_self] at hb;cases hb.2
 ·exact h2 om
end Go.PN
