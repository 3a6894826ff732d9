/- Parts of one proof, laid by a program. -/
import Derived.Test.YtfcnbgmclfkfcaaGreatM00
import Derived.Test.YtfcnbgmclfkfcaaGreatM07
set_option linter.unusedSimpArgs false
set_option linter.unusedVariables false
namespace Go.PN
def val:List Nat→Nat
 |[]=>0
 |x::xs=>x+4294967296*val xs
def words (n:Nat):List Nat:=if h:n=0 then [] else n%4294967296::words (n/4294967296)
termination_by n
decreasing_by omega
theorem words_zero:words 0=[]:=by rw [words];simp
theorem words_cons {n:Nat} (h:n≠0):words n=n%4294967296::words (n/4294967296):=by rw [words];simp [h]
theorem words_mk {x v:Nat} (hx:x<4294967296) (h:x≠0∨v≠0):words (x+4294967296*v)=x::words v:=by
 rw [words_cons om]
 congr 1
 ·omega
 ·congr 1;omega
theorem val_words (n:Nat):val (words n)=n:=by
 induction n using Nat.strongRecOn with
 |ind n ih=>
  by_cases h:n=0
  ·subst h;rw [words_zero];rfl
  ·rw [words_cons h,val,ih _ om];omega
theorem words_lt (n:Nat):∀x∈words n,x<4294967296:=by
 induction n using Nat.strongRecOn with
 |ind n ih=>
  by_cases h:n=0
  ·subst h;rw [words_zero];simp
  ·rw [words_cons h]
   intro x hx
   simp only [List.mem_cons] at hx
   rcases hx with rfl|hx
   ·omega
   ·exact ih _ om x hx
theorem words_eq_nil {n:Nat}:words n=[]↔n=0:=by
 constructor
 ·intro h
  have:=val_words n
  rw [h] at this
  exact this.symm
 ·rintro rfl;exact words_zero
theorem words_inj {a b:Nat} (h:words a=words b):a=b:=by rw [←val_words a,h,val_words]
theorem val_zero {xs:List Nat} (h:∀x∈xs,x=0):val xs=0:=by
 induction xs with
 |nil=>rfl
 |cons x xs ih=>rw [val,ih (fun y hy=>h y (by simp [hy])),h x (by simp)]
theorem trim_eq:∀(xs:List Nat) (n:Nat),(∀x∈xs,x<4294967296)→n≤xs.length→(∀j,n≤j→xs.getD j 0=0)→(n=0∨xs.getD (n-1) 0≠0)→words (val xs)=xs.take n
 |[],n,_,hn,_,_=>by simp at hn;subst hn;simp [val,words_zero]
 |x::xs,0,hx,_,hz,_=>by
  have:val (x::xs)=0:=val_zero (fun y hy=>by
   obtain⟨j,hj,rfl⟩:=List.getElem_of_mem hy
   have:=hz j (Nat.zero_le _)
   rw [List.getD_eq_getElem?_getD,List.getElem?_eq_getElem hj] at this
   exact this)
  rw [this,words_zero];rfl
 |x::xs,n+1,hx,hn,hz,hl=>by
  have hx0:x<4294967296:=hx x (by simp)
  have ih:=trim_eq xs n (fun y hy=>hx y (by simp [hy])) (by simpa using hn) (fun j hj=>by simpa using hz (j+1) om) (by
   cases n with
   |zero=>exact .inl rfl
   |succ n=>right;simpa using hl.resolve_left om)
  rw [val,words_mk hx0,ih]
  ·rfl
  ·cases n with
   |zero=>left;simpa using hl.resolve_left om
   |succ n=>
    right
    intro h0
    rw [h0,words_zero] at ih
    have:=congrArg List.length ih
    simp at this hn
    omega
def Plain (xs:List Nat):Prop:=xs=[]∨xs.getD (xs.length-1) 0≠0
theorem words_val {xs:List Nat} (hx:∀x∈xs,x<4294967296) (hp:Plain xs):words (val xs)=xs:=by
 have:=trim_eq xs xs.length hx (Nat.le_refl _) (fun j hj=>by rw [List.getD_eq_getElem?_getD,List.getElem?_eq_none hj];rfl) (by
  rcases hp with rfl|hp
  ·left;rfl
  ·exact .inr hp)
 rwa [List.take_length] at this
theorem words_plain (n:Nat):Plain (words n):=by
 induction n using Nat.strongRecOn with
 |ind n ih=>
  by_cases h:n=0
  ·subst h;left;exact words_zero
  ·right
   rw [words_cons h]
   by_cases h2:n/4294967296=0
   ·rw [h2,words_zero];simp;omega
   ·have:=ih _ (by omega:n/4294967296<n)
    rcases this with e|e
    ·rw [words_eq_nil] at e;exact absurd e h2
    ·have hl:0<(words (n/4294967296)).length:=by
      rcases Nat.eq_zero_or_pos (words (n/4294967296)).length with h0|h0
      ·rw [List.length_eq_zero_iff,words_eq_nil] at h0;exact absurd h0 h2
      ·exact h0
     rw [List.length_cons,show(words (n/4294967296)).length+1-1=((words (n/4294967296)).length-1)+1 from by omega]
     simpa using e
theorem val_lt:∀(xs:List Nat),(∀x∈xs,x<4294967296)→val xs<4294967296^xs.length
 |[],_=>by simp [val]
 |x::xs,hx=>by
  have h1:=val_lt xs (fun y hy=>hx y (by simp [hy]))
  have h2:=hx x (by simp)
  rw [val,List.length_cons,Nat.pow_succ]
  omega
theorem val_append (xs ys:List Nat):val (xs++ys)=val xs+4294967296^xs.length*val ys:=by
 induction xs with
 |nil=>simp [val]
 |cons x xs ih=>rw [List.cons_append,val,val,ih,List.length_cons,Nat.pow_succ,Nat.mul_add,←Nat.add_assoc,←Nat.mul_assoc,Nat.mul_comm 4294967296 (4294967296^xs.length)]
theorem getD_lt {xs:List Nat} (hx:∀x∈xs,x<4294967296) (i:Nat):xs.getD i 0<4294967296:=by
 rw [List.getD_eq_getElem?_getD]
 cases h:xs[i]? with
 |none=>simp
 |some x=>exact hx x (List.mem_of_getElem? h)
theorem getD_ge {xs:List Nat} {i:Nat} (h:xs.length≤i):xs.getD i 0=0:=by
 rw [List.getD_eq_getElem?_getD,List.getElem?_eq_none h];rfl
theorem getD_take {xs:List Nat} {n j:Nat} (h:j<n):(xs.take n).getD j 0=xs.getD j 0:=by
 rw [List.getD_eq_getElem?_getD,List.getD_eq_getElem?_getD,List.getElem?_take,if_pos h]
theorem val_take_succ (xs:List Nat) (i:Nat):val (xs.take (i+1))=val (xs.take i)+4294967296^i*xs.getD i 0:=by
 by_cases h:i<xs.length
 ·rw [List.take_succ_eq_append_getElem h,val_append,List.getD_eq_getElem?_getD,List.getElem?_eq_getElem h]
  simp [val,List.length_take,Nat.min_eq_left (Nat.le_of_lt h)]
 ·rw [getD_ge om,List.take_of_length_le om,List.take_of_length_le om];simp
theorem take_set (zs:List Nat) (i v:Nat):(zs.set i v).take i=zs.take i:=by
 apply List.ext_getElem?
 intro j
 simp only [List.getElem?_take]
 by_cases h:j<i
 ·rw [if_pos h,if_pos h,List.getElem?_set_ne om]
 ·rw [if_neg h,if_neg h]
theorem getD_set {zs:List Nat} {i v:Nat} (h:i<zs.length):(zs.set i v).getD i 0=v:=by
 simp [List.getD_eq_getElem?_getD,h]
theorem val_set_take {zs:List Nat} {i v:Nat} (h:i<zs.length):val ((zs.set i v).take (i+1))=val (zs.take i)+4294967296^i*v:=by
 rw [val_take_succ,take_set,getD_set h]
theorem val_replicate (n:Nat):val (List.replicate n 0)=0:=val_zero (fun x hx=>(List.mem_replicate.1 hx).2)
theorem set_lt {zs:List Nat} {i v:Nat} (hz:∀x∈zs,x<4294967296) (hv:v<4294967296):∀x∈zs.set i v,x<4294967296:=fun x hx=>by
 rcases List.mem_or_eq_of_mem_set hx with h|h
 ·exact hz x h
 ·omega
theorem replicate_lt (n:Nat):∀x∈List.replicate n 0,x<4294967296:=fun x hx=>by rw [(List.mem_replicate.1 hx).2];omega
def cmpN (a b:Nat):Int:=if a<b then-1 else if a=b then 0 else 1
theorem words_pow_lt (n:Nat):n<4294967296^(words n).length:=by
 have:=val_lt (words n) (words_lt n)
 rwa [val_words] at this
theorem words_len_le {n k:Nat} (h:n<4294967296^k):(words n).length≤k:=by
 induction k generalizing n with
 |zero=>have:n=0:=by simpa using h
        subst this;rw [words_zero];simp
 |succ k ih=>
  by_cases h0:n=0
  ·subst h0;rw [words_zero];simp
  ·rw [words_cons h0,List.length_cons]
   have:= @ih (n/4294967296) (by rw [Nat.pow_succ] at h;exact Nat.div_lt_of_lt_mul om)
   omega
theorem words_pow_le {n:Nat} (h:n≠0):4294967296^((words n).length-1)≤n:=by
 rcases Nat.lt_or_ge n (4294967296^((words n).length-1)) with hlt|hge
 ·have:=words_len_le hlt
  have hl:(words n).length≠0:=fun e=>h (words_eq_nil.1 (List.length_eq_zero_iff.1 e))
  omega
 ·exact hge
theorem words_val_len (xs:List Nat) (hx:∀x∈xs,x<4294967296):(words (val xs)).length≤xs.length:=words_len_le (val_lt xs hx)
theorem words_len_mono {a b:Nat} (h:a≤b):(words a).length≤(words b).length:=words_len_le (Nat.lt_of_le_of_lt h (words_pow_lt b))
theorem cmpN_len_lt {a b:Nat} (h:(words a).length<(words b).length):cmpN a b= -1:=by
 have:a<b:=by
  rcases Nat.lt_or_ge a b with h1|h1
  ·exact h1
  ·have:=words_len_mono h1;omega
 simp [cmpN,this]
theorem cmpN_len_gt {a b:Nat} (h:(words b).length<(words a).length):cmpN a b=1:=by
 have:b<a:=by
  rcases Nat.lt_or_ge b a with h1|h1
  ·exact h1
  ·have:=words_len_mono h1;omega
 unfold cmpN
 rw [if_neg om,if_neg om]
theorem drop_getD (xs:List Nat) {i:Nat} (h:i<xs.length):xs.drop i=xs.getD i 0::xs.drop (i+1):=by
 rw [List.drop_eq_getElem_cons h,List.getD_eq_getElem?_getD,List.getElem?_eq_getElem h];rfl
theorem val_drop (xs:List Nat) (i:Nat):val (xs.drop i)=xs.getD i 0+4294967296*val (xs.drop (i+1)):=by
 by_cases h:i<xs.length
 ·rw [List.drop_eq_getElem_cons h,val,List.getD_eq_getElem?_getD,List.getElem?_eq_getElem h];rfl
 ·rw [getD_ge om,List.drop_eq_nil_of_le om,List.drop_eq_nil_of_le om];rfl
theorem val_split (xs:List Nat) (i:Nat) (h:i≤xs.length):val xs=val (xs.take i)+4294967296^i*val (xs.drop i):=by
 have:=val_append (xs.take i) (xs.drop i)
 rwa [List.take_append_drop,List.length_take,Nat.min_eq_left h] at this
theorem val_take_lt (xs:List Nat) (hx:∀x∈xs,x<4294967296) (i:Nat) (h:i≤xs.length):val (xs.take i)<4294967296^i:=by
 have:=val_lt (xs.take i) (fun x hm=>hx x (List.mem_of_mem_take hm))
 rwa [List.length_take,Nat.min_eq_left h] at this
theorem word_lt {xs ys:List Nat} {i:Nat} (hx:∀x∈xs,x<4294967296) (hy:∀x∈ys,x<4294967296) (h1:i<xs.length) (h2:i<ys.length) (hd:xs.drop (i+1)=ys.drop (i+1)) (hlt:xs.getD i 0<ys.getD i 0):val xs<val ys:=by
 rw [val_split xs i om,val_split ys i om,val_drop xs i,val_drop ys i,hd]
 have h3:=val_take_lt xs hx i om
 have h5:4294967296^i*(xs.getD i 0+4294967296*val (ys.drop (i+1))+1)≤4294967296^i*(ys.getD i 0+4294967296*val (ys.drop (i+1))):=Nat.mul_le_mul_left _ om
 rw [Nat.mul_add,Nat.mul_one] at h5
 omega
theorem add_step {xs ys zs:List Nat} {i c:Nat} (hi:i<zs.length) (h:val (zs.take i)+4294967296^i*c=val (xs.take i)+val (ys.take i)):
 val ((zs.set i ((c+(xs.getD i 0+ys.getD i 0))%4294967296)).take (i+1))+4294967296^(i+1)*((c+(xs.getD i 0+ys.getD i 0))/4294967296)=val (xs.take (i+1))+val (ys.take (i+1)):=by
 rw [val_set_take hi,val_take_succ,val_take_succ,Nat.pow_succ]
 generalize xs.getD i 0=x at*
 generalize ys.getD i 0=y at*
 have e:(c+(x+y))%4294967296+4294967296*((c+(x+y))/4294967296)=c+(x+y):=Nat.mod_add_div _ _
 have e2:4294967296^i*((c+(x+y))%4294967296)+4294967296^i*4294967296*((c+(x+y))/4294967296)=4294967296^i*(c+(x+y)):=by
  rw [Nat.mul_assoc,←Nat.mul_add,e]
 rw [Nat.mul_add,Nat.mul_add] at e2
 omega
theorem add_end {xs ys zs:List Nat} {c:Nat} (hx:∀x∈xs,x<4294967296) (hy:∀x∈ys,x<4294967296) (hl:zs.length=max xs.length ys.length+1)
 (h:val (zs.take zs.length)+4294967296^zs.length*c=val (xs.take zs.length)+val (ys.take zs.length)):val zs=val xs+val ys:=by
 rw [List.take_length,List.take_of_length_le om,List.take_of_length_le om] at h
 have h1:=val_lt xs hx
 have h2:=val_lt ys hy
 have h3:(4294967296:Nat)^xs.length≤4294967296^(max xs.length ys.length):=Nat.pow_le_pow_right om om
 have h4:(4294967296:Nat)^ys.length≤4294967296^(max xs.length ys.length):=Nat.pow_le_pow_right om om
 have h5:(4294967296:Nat)^zs.length=4294967296^(max xs.length ys.length)*4294967296:=by rw [hl,Nat.pow_succ]
 rcases Nat.eq_zero_or_pos c with rfl|hc
 ·simpa using h
 ·have h6:4294967296^zs.length*1≤4294967296^zs.length*c:=Nat.mul_le_mul_left _ hc
  have h7:0<4294967296^(max xs.length ys.length):=Nat.pow_pos om
  omega
def subD (x y b:Nat):Nat:=(x+18446744073709551616-y-b)%18446744073709551616
theorem sub_step {xs ys zs:List Nat} {i b:Nat} (hi:i<zs.length) (hx:xs.getD i 0<4294967296) (hy:ys.getD i 0<4294967296) (hb:b≤1) (h:val (zs.take i)+val (ys.take i)=val (xs.take i)+4294967296^i*b):
 val ((zs.set i (subD (xs.getD i 0) (ys.getD i 0) b%4294967296)).take (i+1))+val (ys.take (i+1))=val (xs.take (i+1))+4294967296^(i+1)*(subD (xs.getD i 0) (ys.getD i 0) b/9223372036854775808)∧subD (xs.getD i 0) (ys.getD i 0) b/9223372036854775808≤1:=by
 rw [val_set_take hi,val_take_succ,val_take_succ,Nat.pow_succ]
 generalize xs.getD i 0=x at*
 generalize ys.getD i 0=y at*
 have hd:subD x y b%4294967296+(y+b)=x+4294967296*(subD x y b/9223372036854775808)∧subD x y b/9223372036854775808≤1:=by
  unfold subD
  rcases Nat.lt_or_ge x (y+b) with h1|h1<;>omega
 generalize subD x y b%4294967296=v at*
 generalize subD x y b/9223372036854775808=b' at*
 have e2:4294967296^i*(v+(y+b))=4294967296^i*(x+4294967296*b'):=by rw [hd.1]
 rw [Nat.mul_add,Nat.mul_add,Nat.mul_add,←Nat.mul_assoc] at e2
 exact⟨by omega,hd.2⟩
theorem sub_end {xs ys zs:List Nat} {b:Nat} (hx:∀x∈xs,x<4294967296) (hz:∀x∈zs,x<4294967296) (hl:zs.length=xs.length) (hle:val ys≤val xs)
 (h:val (zs.take xs.length)+val (ys.take xs.length)=val (xs.take xs.length)+4294967296^xs.length*b):val zs=val xs-val ys:=by
 rw [←hl,List.take_length,hl,List.take_length] at h
 have h1:=val_lt xs hx
 have h2:=val_lt zs hz
 rw [hl] at h2
 have h3:val (ys.take xs.length)=val ys:=by
  by_cases hc:xs.length≤ys.length
  ·have:=val_split ys xs.length hc
   rcases Nat.eq_zero_or_pos (val (ys.drop xs.length)) with h0|h0
   ·rw [h0] at this;omega
   ·have:=Nat.mul_le_mul_left (4294967296^xs.length) h0
    omega
  ·rw [List.take_of_length_le om]
 rcases Nat.eq_zero_or_pos b with rfl|hb
 ·omega
 ·have:=Nat.mul_le_mul_left (4294967296^xs.length) hb
  omega
theorem val_set {zs:List Nat} {j v:Nat} (h:j<zs.length):val (zs.set j v)+4294967296^j*zs.getD j 0=val zs+4294967296^j*v:=by
 have h1:=val_split (zs.set j v) j (by simp;omega)
 have h2:=val_split zs j om
 rw [take_set] at h1
 have h3:=val_drop (zs.set j v) j
 have h4:=val_drop zs j
 have h5:(zs.set j v).drop (j+1)=zs.drop (j+1):=by
  apply List.ext_getElem?
  intro q
  rw [List.getElem?_drop,List.getElem?_drop,List.getElem?_set_ne om]
 rw [getD_set h,h5] at h3
 rw [h3] at h1
 rw [h4] at h2
 rw [h1,h2,Nat.mul_add,Nat.mul_add]
 omega
theorem getD_zero_of_lt {zs:List Nat} {m j:Nat} (h:val zs<4294967296^m) (hj:m≤j):zs.getD j 0=0:=by
 by_cases hl:j<zs.length
 ·have h1:=val_split zs j om
  rw [val_drop zs j] at h1
  rcases Nat.eq_zero_or_pos (zs.getD j 0) with h0|h0
  ·exact h0
  ·have h2:(4294967296:Nat)^m≤4294967296^j:=Nat.pow_le_pow_right om hj
   have h3:=Nat.mul_le_mul_left (4294967296^j) (show 1≤zs.getD j 0+4294967296*val (zs.drop (j+1)) from by omega)
   omega
 ·exact getD_ge om
theorem getD_set_ne {zs:List Nat} {i j v:Nat} (h:i≠j):(zs.set i v).getD j 0=zs.getD j 0:=by
 rw [List.getD_eq_getElem?_getD,List.getD_eq_getElem?_getD,List.getElem?_set_ne h]
theorem mul_step {zs ys:List Nat} {i k c x V:Nat} (hk:i+k<zs.length) (h:val zs+4294967296^(i+k)*c=V+4294967296^i*(x*val (ys.take k))):
 val (zs.set (i+k) ((c+(x*ys.getD k 0+zs.getD (i+k) 0))%4294967296))+4294967296^(i+(k+1))*((c+(x*ys.getD k 0+zs.getD (i+k) 0))/4294967296)=V+4294967296^i*(x*val (ys.take (k+1))):=by
 have h1:=val_set (v:=(c+(x*ys.getD k 0+zs.getD (i+k) 0))%4294967296) hk
 generalize zs.getD (i+k) 0=z at*
 have e:(c+(x*ys.getD k 0+z))%4294967296+4294967296*((c+(x*ys.getD k 0+z))/4294967296)=c+(x*ys.getD k 0+z):=Nat.mod_add_div _ _
 have e2:4294967296^(i+k)*((c+(x*ys.getD k 0+z))%4294967296)+4294967296^(i+(k+1))*((c+(x*ys.getD k 0+z))/4294967296)=4294967296^(i+k)*c+4294967296^(i+k)*(x*ys.getD k 0)+4294967296^(i+k)*z:=by
  rw [show i+(k+1)=(i+k)+1 from by omega,Nat.pow_succ,Nat.mul_assoc,←Nat.mul_add,e,Nat.mul_add,Nat.mul_add,Nat.add_assoc]
 have e3:4294967296^i*(x*val (ys.take (k+1)))=4294967296^i*(x*val (ys.take k))+4294967296^(i+k)*(x*ys.getD k 0):=by
  rw [val_take_succ,Nat.mul_add,Nat.mul_add,Nat.pow_add,Nat.mul_left_comm x,Nat.mul_assoc]
 omega
theorem mul_bound {x y:Nat} (hx:x<4294967296) (hy:y<4294967296):x*y≤18446744065119617025:=by
 have:=Nat.mul_le_mul (show x≤4294967295 from by omega) (show y≤4294967295 from by omega)
 omega
theorem drop_set {zs:List Nat} {i v:Nat} (h:i<zs.length):(zs.set i v).drop i=v::zs.drop (i+1):=by
 rw [drop_getD _ (by simpa using h),getD_set h]
 congr 1
 apply List.ext_getElem?
 intro q
 rw [List.getElem?_drop,List.getElem?_drop,List.getElem?_set_ne om]
theorem small_step {xs zs:List Nat} {m b r:Nat} (hb:0<b) (hm:m<zs.length) (h:val (xs.drop (m+1))=b*val (zs.drop (m+1))+r):
 val (xs.drop m)=b*val ((zs.set m ((r*4294967296+xs.getD m 0)/b)).drop m)+(r*4294967296+xs.getD m 0)%b:=by
 rw [val_drop,drop_set hm,val,h]
 generalize xs.getD m 0=x
 have e:=Nat.div_add_mod (r*4294967296+x) b
 generalize (r*4294967296+x)/b=q at*
 generalize (r*4294967296+x)%b=t at*
 have e2:b*(q+4294967296*val (zs.drop (m+1)))=b*q+4294967296*(b*val (zs.drop (m+1))):=by
  rw [Nat.mul_add,Nat.mul_left_comm]
 rw [e2]
 omega
end Go.PN
namespace Go.Proofs.YtfcnbgmclfkfcaaGreat
open Go.AI Go.PN
attribute [local irreducible] aw Fa Fh DrK
set_option maxHeartbeats 400000 in
theorem word_fa (xs:List Nat) (i:Nat) (hx:∀x∈xs,x<4294967296):Fa Tryz.prog 209 [.c (ws false xs),.c (.int .i64 i)] (.c (.int .u64 (xs.getD i 0:Nat))):=by
 refine fa_of_body Tryz.func209 rfl rfl (by simp [Tryz.ntmps209]) fun C hC=> ?_
 have hb:=getD_lt hx i
 simp only [initS,Nat.reduceAdd]
 refine xG ?_
 refine aw_cond eE (fun hb=> ?_) (fun hb=> ?_)
 ·simp only [decide_eq_true_eq] at hb
  refine xGT hC ?_
  exact .one (.c (ler_int rfl))
 ·simp only [decide_eq_false_iff_not] at hb
  refine xGT hC ?_
  refine .one (.c (ler_int ?_))
  rw [getD_ge om];rfl
set_option maxHeartbeats 400000 in
theorem trim_fa (xs:List Nat) (hx:∀x∈xs,x<4294967296) (hl:xs.length≤1099511627776):Fa Tryz.prog 153 [.c (ws false xs)] (.c (ws true (words (val xs)))):=by
 refine fa_of_body Tryz.func153 rfl rfl (by simp [Tryz.ntmps153]) fun C hC=> ?_
 simp only [initS,Nat.reduceAdd]
 refine xG ?_
 refine aw_lp (fun m:Nat=>[(0,.c (ws false xs)),(3,.c (.int .i64 m))]) (fun _=>[]) (fun m=>m≤xs.length∧(∀j,m≤j→xs.getD j 0=0)) id xs.length eB zZ ⟨Nat.le_refl _,fun j hj=>getD_ge hj⟩ ?_
 rintro m ⟨hm,hz⟩
 have hend:(m=0∨xs.getD (m-1) 0≠0)→words (val xs)=xs.take m:=trim_eq xs m hx hm hz
 by_cases h0:0<m
 ·have hd:decide ((m:Int)>0)=true:=by simp;omega
  apply aw_seq
  apply aw_seq
  refine aw_rp true (by simp only [go_sem,Nat.reduceEqDiff,reduceIte,hd]<;>rfl) (by(try simp only [inRange])<;>and_intros<;>first|exact True.intro|omega|trivial) rfl ?_
  have e1:((m:Int)-1).toNat=m-1:=by omega
  refine aw_cond eE (fun hb=> ?_) (fun hb=> ?_)
  ·have hb':xs.getD (m-1) 0=0:=by simpa using hb
   refine xG ?_
   refine aw_stop ⟨m-1,by simp only [id];omega,eB,zZ,by omega,fun j hj=> ?_⟩
   by_cases hjm:j=m-1
   ·rw [hjm];exact hb'
   ·exact hz j om
  ·have hb':xs.getD (m-1) 0≠0:=by simpa using hb
   have hm0:((m:Int)==0)=false:=by simp;omega
   refine xG ?_
   refine aw_cond eE (fun hb=> ?_) (fun hb=> ?_)
   ·rw [hm0] at hb;cases hb
   ·refine xG ?_
    refine aw_buildSlice (xs:=[]) (cells:=[]) rfl rfl rfl ty_e_ws (by rw [envP,ty_z_u32];rfl) rfl om om (by simp) rfl fun g hg=> ?_
    simp only [go_sem,Nat.reduceEqDiff,reduceIte]
    refine xG ?_
    refine aw_append rfl rfl rfl ty_e_ws ty_z_u32 rfl om eE eE om eE .row (fun _ _=>rfl) h0 (by unfold maxLen;omega) om eE fun g' hg'=> ?_
    simp only [go_sem,Nat.reduceEqDiff,reduceIte]
    refine xGT hC ?_
    refine .one (.c ?_)
    rw [hend (.inr hb')]
    refine ler_oslws eE om (by simp;omega) (fun j hj=> ?_)
    simp only [appF,Nat.not_lt_zero,if_false,Nat.sub_zero,Nat.zero_add]
    rw [getD_take hj]
 ·have hm0:m=0:=by omega
  subst hm0
  have hd:decide (((0:Nat):Int)>0)=false:=by simp
  apply aw_seq
  apply aw_seq
  refine aw_rp true (by simp only [go_sem,Nat.reduceEqDiff,reduceIte,hd]<;>rfl) (by(try simp only [inRange])<;>and_intros<;>first|exact True.intro|omega|trivial) rfl ?_
  refine aw_cond eE (fun hb=> ?_) (fun _=> ?_)
  ·cases hb
  refine xG ?_
  refine aw_cond eE (fun _=> ?_) (fun hb=> ?_)
  ·refine xGT hC ?_
   refine .one (.c ?_)
   rw [hend (.inl rfl)]
   exact .nils
  ·cases hb
end Go.Proofs.YtfcnbgmclfkfcaaGreat
namespace Go.Proofs.YtfcnbgmclfkfcaaGreat
open Go.AI Go.PN
attribute [local irreducible] aw Fa Fh DrK
set_option maxHeartbeats 800000 in
theorem add_fa (xs ys:List Nat) (hx:∀x∈xs,x<4294967296) (hy:∀x∈ys,x<4294967296) (hlx:xs.length≤68719476736) (hly:ys.length≤68719476736):
 Fa Tryz.prog 166 [.c (ws false xs),.c (ws false ys)] (.c (ws true (words (val xs+val ys)))):=by
 refine fa_of_body Tryz.func166 rfl rfl (by simp [Tryz.ntmps166]) fun C hC=> ?_
 simp only [initS,Nat.reduceAdd]
 refine xG ?_
 have hmx:(if(ys.length:Int)>xs.length then(ys.length:Int) else xs.length)+1=((max xs.length ys.length+1:Nat):Int):=by split<;>omega
 rw [hmx]
 generalize hn:max xs.length ys.length+1=n
 refine aw_make (n:=n) (c:=n) rfl rfl rfl ty_e_ws ty_z_u32 rfl om eE eE rfl rfl om om om fun g hg=> ?_
 rw [make_wf n]
 refine xSG ?_
 refine aw_lp (fun x:Nat×Nat×List Nat=>[(0,.c (ws false xs)),(1,.c (ws false ys)),(5,.c (.osl g 1 0 n)),(6,.c (.int .u64 x.2.1)),(16,.c (.int .i64 n)),(17,.c (.int .i64 x.1))]) (fun x=>[(g,.cells 130 n (wf x.2.2))])
  (fun x=>x.1≤n∧x.2.1≤1∧x.2.2.length=n∧(∀y∈x.2.2,y<4294967296)∧val (x.2.2.take x.1)+4294967296^x.1*x.2.1=val (xs.take x.1)+val (ys.take x.1)) (fun x=>n-x.1) (0,0,List.replicate n 0) eB zZ
  ⟨Nat.zero_le _,Nat.zero_le _,by simp,replicate_lt n,by simp [val]⟩ ?_
 rintro ⟨i,c,zs⟩ ⟨hi,hc,hzl,hz,hv⟩
 dsimp only at hi hc hzl hz hv⊢
 refine xG ?_
 refine aw_cond eE (fun hb=> ?_) (fun hb=> ?_)
 ·have hin:i<n:=by simpa using hb
  have hxi:=getD_lt hx i
  have hyi:=getD_lt hy i
  refine xG ?_
  refine aw_callq (word_fa xs i hx) rfl rfl rfl eL ?_
  refine xSG ?_
  refine aw_callq (word_fa ys i hy) rfl rfl rfl eL ?_
  refine xSG ?_
  have ew:wrapZ .u32 ((c:Int)+(((xs.getD i 0:Nat):Int)+((ys.getD i 0:Nat):Int)))=(((c+(xs.getD i 0+ys.getD i 0))%4294967296:Nat):Int):=by rw [wrapZ_eq,IntKind.wrap_u32];omega
  rw [ew]
  refine xW ?_
  refine xS ?_
  rw [updF_wf om]
  refine xG ?_
  refine aw_stop ⟨(i+1,(c+(xs.getD i 0+ys.getD i 0))/4294967296,zs.set i ((c+(xs.getD i 0+ys.getD i 0))%4294967296)),by simp only;omega,eB,zZ,by simp only;omega,by simp only;omega,by simpa using hzl,set_lt hz om,add_step om hv⟩
 ·have hin:i=n:=by have:¬((i:Int)<n):=by simpa using hb
                   omega
  subst hin
  refine xG ?_
  refine aw_callq (trim_fa zs hz om) rfl rfl rfl (by refine xS ?_;exact .c (lec_oslws eE om om (fun j _=>by rw [Nat.zero_add];rfl))) ?_
  refine xSGT hC ?_
  rw [add_end hx hy om (by rw [hzl];exact hv)]
  exact .one (.c ler_ws)
end Go.Proofs.YtfcnbgmclfkfcaaGreat
namespace Go.AI
theorem ofInt64 (a:Nat):(BitVec.ofInt 64 (a:Int)).toNat=a%18446744073709551616:=by
 rw [BitVec.ofInt_natCast,BitVec.toNat_ofNat]
theorem or_u64 (a b:Nat) (ha:a<18446744073709551616) (hb:b<18446744073709551616):orZ .u64 (a:Int) (b:Int)=((a|||b:Nat):Int):=by
 have hx:a|||b<2^64:=Nat.or_lt_two_pow om om
 rw [orZ_eq]
 show IntKind.u64.wrap (((BitVec.ofInt 64 (a:Int))|||(BitVec.ofInt 64 (b:Int))).toNat:Int)=_
 rw [BitVec.toNat_or,ofInt64,ofInt64,Nat.mod_eq_of_lt ha,Nat.mod_eq_of_lt hb,IntKind.wrap_u64]
 omega
theorem or_join (x y:Nat) (hy:y<4294967296):x*4294967296|||y=x*4294967296+y:=by
 have:=Nat.two_pow_add_eq_or_of_lt (i:=32) (b:=y) om x
 rw [Nat.mul_comm x,←this]
theorem or_u64_join (x y:Nat) (hx:x<4294967296) (hy:y<4294967296):orZ .u64 ((x*4294967296:Nat):Int) (y:Int)=((x*4294967296+y:Nat):Int):=by
 rw [or_u64 _ _ om om,or_join x y hy]
def j32 (x y:Nat):Nat:=x*4294967296+y
theorem or_u64_j32 (x y:Nat) (hx:x<4294967296) (hy:y<4294967296):orZ .u64 ((x*4294967296:Nat):Int) (y:Int)=((j32 x y:Nat):Int):=or_u64_join x y hx hy
theorem or_u64_join' (x y:Nat) (hx:x<4294967296) (hy:y<4294967296):orZ .u64 (y:Int) ((x*4294967296:Nat):Int)=((x*4294967296+y:Nat):Int):=by
 rw [or_u64 _ _ om om,Nat.or_comm,or_join x y hy]
theorem or_u32 (a b:Nat) (ha:a<4294967296) (hb:b<4294967296):orZ .u32 (a:Int) (b:Int)=((a|||b:Nat):Int):=by
 have hx:a|||b<2^32:=Nat.or_lt_two_pow om om
 rw [orZ_eq]
 show IntKind.u32.wrap (((BitVec.ofInt 32 (a:Int))|||(BitVec.ofInt 32 (b:Int))).toNat:Int)=_
 rw [BitVec.toNat_or,BitVec.ofInt_natCast,BitVec.ofInt_natCast,BitVec.toNat_ofNat,BitVec.toNat_ofNat,Nat.mod_eq_of_lt om,Nat.mod_eq_of_lt om,IntKind.wrap_u32]
 omega
theorem shl_u64_32 (x:Nat) (hx:x<4294967296):shlZ .u64 (x:Int) 32=((x*4294967296:Nat):Int):=by
 rw [shlZ_eq]
 show IntKind.u64.wrap ((x:Int)*4294967296)=_
 rw [IntKind.wrap_u64];omega
theorem nat_div_32 (y:Nat):(y:Int)/4294967296=((y/4294967296:Nat):Int):=by omega
theorem pow_lt_32 {n:Nat} (hn:n≤32):2^n≤4294967296:=Nat.pow_le_pow_right (n:=2) om hn
theorem shl_u64 (x n:Nat) (hx:x<4294967296) (hn:n≤32):shlZ .u64 (x:Int) (n:Int)=((x*2^n:Nat):Int):=by
 have h1:=pow_lt_32 hn
 have h2:x*2^n≤4294967295*4294967296:=Nat.mul_le_mul om h1
 rw [shlZ_eq]
 show IntKind.u64.wrap ((x:Int)*2^(min (n:Int).toNat 64))=_
 rw [Int.toNat_natCast,Nat.min_eq_left om,IntKind.wrap_u64]
 have e:(x:Int)*2^n=((x*2^n:Nat):Int):=by simp
 rw [e]
 omega
theorem shr_u64 (x n:Nat) (hn:n≤64):shrZ .u64 (x:Int) (n:Int)=((x/2^n:Nat):Int):=by
 rw [shrZ_eq]
 show(x:Int).fdiv (2^(min (n:Int).toNat 64))=_
 rw [Int.toNat_natCast,Nat.min_eq_left hn]
 have e:(2:Int)^n=((2^n:Nat):Int):=by simp
 rw [e,Int.fdiv_eq_ediv_of_nonneg _ (Int.natCast_nonneg _)]
 rfl
theorem quo_u64 (a b:Nat) (ha:a<18446744073709551616):quoZ .u64 (a:Int) (b:Int)=((a/b:Nat):Int):=by
 rw [quoZ_eq]
 show IntKind.u64.wrap ((a:Int).tdiv b)=_
 have h:=Nat.div_le_self a b
 have e:(a:Int).tdiv (b:Int)=((a/b:Nat):Int):=rfl
 rw [e,IntKind.wrap_u64]
 generalize a/b=q at*
 omega
theorem rem_nat (a b:Nat):remZ (a:Int) (b:Int)=((a%b:Nat):Int):=by rw [remZ_eq];exact Int.ofNat_tmod a b
end Go.AI
namespace Go.Proofs.YtfcnbgmclfkfcaaGreat
open Go.AI Go.PN
attribute [local irreducible] aw Fa Fh DrK
set_option maxHeartbeats 1600000 in
theorem small_fa (xs:List Nat) (b:Nat) (hx:∀x∈xs,x<4294967296) (hlx:xs.length≤68719476736) (hb0:0<b) (hb:b<4294967296):
 Fa Tryz.prog 187 [.c (ws false xs),.c (.int .u32 b)] (.tup [.c (ws true (words (val xs/b))),.c (.int .u32 (val xs%b:Nat))]):=by
 refine fa_of_body Tryz.func187 rfl rfl (by simp [Tryz.ntmps187]) fun C hC=> ?_
 simp only [initS,Nat.reduceAdd]
 refine xG ?_
 refine aw_make (n:=xs.length) (c:=xs.length) rfl rfl rfl ty_e_ws ty_z_u32 rfl om eE eE rfl rfl om om om fun g hg=> ?_
 rw [make_wf xs.length]
 refine xSG ?_
 refine aw_lp (fun x:Nat×Nat×List Nat=>[(0,.c (ws false xs)),(1,.c (.int .u32 b)),(6,.c (.osl g 1 0 xs.length)),(7,.c (.int .u64 x.2.1)),(8,.c (.int .i64 ((x.1:Int)-1)))]) (fun x=>[(g,.cells 130 xs.length (wf x.2.2))])
  (fun x=>x.1≤xs.length∧x.2.1<b∧x.2.2.length=xs.length∧(∀y∈x.2.2,y<4294967296)∧val (xs.drop x.1)=b*val (x.2.2.drop x.1)+x.2.1) (fun x=>x.1) (xs.length,0,List.replicate xs.length 0) eB zZ
  ⟨Nat.le_refl _,hb0,by simp,replicate_lt _,by simp [val]⟩ ?_
 rintro ⟨m,r,zs⟩ ⟨hm,hr,hzl,hz,hv⟩
 dsimp only at hm hr hzl hz hv⊢
 refine xG ?_
 refine aw_cond eE (fun hb1=> ?_) (fun hb1=> ?_)
 ·have hm1:1≤m:=dT hb1
  have e1:((m:Int)-1).toNat=m-1:=by omega
  have hxi:=getD_lt hx (m-1)
  have hst:=small_step (xs:=xs) (zs:=zs) (m:=m-1) (r:=r) hb0 om (by rw [show m-1+1=m from by omega];exact hv)
  refine xG ?_
  rw [shl_u64_32 r om,or_u64_join r _ om hxi]
  have hs:r*4294967296+xs.getD (m-1) 0<b*4294967296:=by
   have:(r+1)*4294967296≤b*4294967296:=Nat.mul_le_mul_right _ hr
   omega
  have hq:(r*4294967296+xs.getD (m-1) 0)/b<4294967296:=Nat.div_lt_of_lt_mul hs
  have hrm:(r*4294967296+xs.getD (m-1) 0)%b<b:=Nat.mod_lt _ hb0
  have hsl:r*4294967296+xs.getD (m-1) 0<18446744073709551616:=by omega
  generalize r*4294967296+xs.getD (m-1) 0=s at hs hq hrm hsl hst⊢
  refine xG ?_
  rw [quo_u64 s b hsl,wrap_u32_nat,Nat.mod_eq_of_lt hq]
  refine xW ?_
  refine xS ?_
  rw [updF_wf om]
  refine xG ?_
  rw [rem_nat]
  refine aw_stop ⟨(m-1,s%b,zs.set (m-1) (s/b)),by dsimp only;omega,eB,zZ,by dsimp only;omega,hrm,by simpa using hzl,set_lt hz hq,hst⟩
 ·have hm0:m=0:=dF hb1
  subst hm0
  refine xG ?_
  refine aw_callq (trim_fa zs hz om) rfl rfl rfl (by refine xS ?_;exact .c (lec_oslws eE om om (fun j _=>by rw [Nat.zero_add];rfl))) ?_
  refine xSGT hC ?_
  simp only [List.drop_zero] at hv
  have e1:val xs/b=val zs:=by rw [hv,Nat.mul_add_div hb0,Nat.div_eq_of_lt hr,Nat.add_zero]
  have e2:val xs%b=r:=by rw [hv,Nat.mul_add_mod,Nat.mod_eq_of_lt hr]
  rw [e1,e2,wrap_u32_nat,Nat.mod_eq_of_lt om]
  exact .tup ⟨.c ler_ws,.c (.int _ _),trivial⟩
end Go.Proofs.YtfcnbgmclfkfcaaGreat
namespace Go.PN
theorem getD_replicate (n j:Nat):(List.replicate n 0).getD j 0=0:=by
 rw [List.getD_eq_getElem?_getD,List.getElem?_replicate];split<;>rfl
theorem two_pow_split {n:Nat} (hn:n≤32):(4294967296:Nat)=2^n*2^(32-n):=by
 rw [←Nat.pow_add,show n+(32-n)=32 from by omega]
theorem shl_mod (x n:Nat) (hn:n≤32):x*2^n%4294967296=2^n*(x%2^(32-n)):=by
 rw [two_pow_split hn,Nat.mul_comm x,Nat.mul_mod_mul_left]
theorem or_low {z x n:Nat} (hn:n≤32) (hz:z<2^n):z|||x*2^n%4294967296=z+x*2^n%4294967296:=by
 rw [shl_mod x n hn,Nat.or_comm,←Nat.two_pow_add_eq_or_of_lt hz,Nat.add_comm]
theorem or_low_lt {z x n:Nat} (hn:n≤32) (hz:z<2^n):z+x*2^n%4294967296<4294967296:=by
 rw [shl_mod x n hn]
 have h1:x%2^(32-n)+1≤2^(32-n):=Nat.mod_lt _ (Nat.two_pow_pos _)
 have h2:=Nat.mul_le_mul_left (2^n) h1
 rw [←two_pow_split hn,Nat.mul_add] at h2
 omega
theorem shl_hi {x n:Nat} (hx:x<4294967296):x*2^n/4294967296<2^n:=by
 rw [Nat.div_lt_iff_lt_mul om,Nat.mul_comm (2^n)]
 exact Nat.mul_lt_mul_of_pos_right hx (Nat.two_pow_pos _)
theorem left_step {xs zs:List Nat} {i n:Nat} (hi:i+1<zs.length) (h0:zs.getD (i+1) 0=0) (h:val zs=val (xs.take i)*2^n):
 val ((zs.set i (zs.getD i 0+xs.getD i 0*2^n%4294967296)).set (i+1) (xs.getD i 0*2^n/4294967296))=val (xs.take (i+1))*2^n:=by
 have h1:=val_set (zs:=zs) (j:=i) (v:=zs.getD i 0+xs.getD i 0*2^n%4294967296) om
 have h2:=val_set (zs:=zs.set i (zs.getD i 0+xs.getD i 0*2^n%4294967296)) (j:=i+1) (v:=xs.getD i 0*2^n/4294967296) (by simpa using hi)
 rw [getD_set_ne om,h0] at h2
 rw [val_take_succ,Nat.add_mul,←h]
 generalize hy:xs.getD i 0*2^n=y at h1 h2⊢
 have h3:4294967296^i*xs.getD i 0*2^n=4294967296^i*y:=by rw [Nat.mul_assoc,hy]
 have h4:4294967296^i*y=4294967296^i*(y%4294967296)+4294967296^(i+1)*(y/4294967296):=by
  rw [Nat.pow_succ,Nat.mul_assoc,←Nat.mul_add];congr 1;omega
 rw [Nat.mul_add] at h1
 rw [h3,h4]
 omega
def rgt (n:Nat):List Nat→List Nat
 |[]=>[]
 |x::xs=>(x+xs.getD 0 0*4294967296)/2^n%4294967296::rgt n xs
theorem rgt_length (n:Nat):∀xs,(rgt n xs).length=xs.length
 |[]=>rfl
 |_::xs=>by simp [rgt,rgt_length n xs]
theorem rgt_getD (n:Nat) (xs:List Nat):∀(i:Nat),i<xs.length→(rgt n xs).getD i 0=(xs.getD i 0+xs.getD (i+1) 0*4294967296)/2^n%4294967296:=by
 induction xs with
 |nil=>intro i h;simp at h
 |cons x xs ih=>
  intro i h
  cases i with
  |zero=>simp only [rgt,List.getD_cons_zero,List.getD_cons_succ]
  |succ i=>
   simp only [rgt,List.getD_cons_succ]
   exact ih i (by simpa using h)
theorem rgt_lt (n:Nat) (xs:List Nat):∀x∈rgt n xs,x<4294967296:=by
 induction xs with
 |nil=>intro x h;simp [rgt] at h
 |cons y xs ih=>
  intro x h
  simp only [rgt,List.mem_cons] at h
  rcases h with h|h
  ·rw [h];exact Nat.mod_lt _ om
  ·exact ih x h
theorem rgt_val {n:Nat} (hn:n≤32) (xs:List Nat):(∀x∈xs,x<4294967296)→val (rgt n xs)=val xs/2^n:=by
 induction xs with
 |nil=>intro _;simp [rgt,val]
 |cons x xs ih0=>
  intro hx
  have ih:=ih0 (fun y hy=>hx y (List.mem_cons_of_mem _ hy))
  have hxx:=hx x (by simp)
  have hV:val xs=xs.getD 0 0+4294967296*val (xs.drop 1):=by have:=val_drop xs 0;simpa using this
  simp only [rgt,val,ih]
  generalize hx':xs.getD 0 0=x' at hV⊢
  generalize val (xs.drop 1)=r at hV
  generalize hVv:val xs=V at hV⊢
  have hN:0<2^n:=Nat.two_pow_pos n
  have hB:=two_pow_split hn
  have hM:0<2^(32-n):=Nat.two_pow_pos _
  generalize 2^n=N at hN hB⊢
  generalize 2^(32-n)=M at hB hM
  have e1:x'%N=V%N:=by rw [hV,hB,Nat.mul_assoc,Nat.add_mul_mod_self_left]
  have e2:(x+x'*4294967296)/N=(x+x'%N*4294967296)/N+x'/N*4294967296:=by
   have hq:x'=N*(x'/N)+x'%N:=(Nat.div_add_mod x' N).symm
   have:x+x'*4294967296=(x+x'%N*4294967296)+N*(x'/N*4294967296):=by
    conv=>lhs;rw [hq]
    rw [Nat.add_mul,Nat.mul_assoc];omega
   rw [this,Nat.add_mul_div_left _ _ hN]
  have e3:(x+4294967296*V)/N=(x+V%N*4294967296)/N+V/N*4294967296:=by
   have hq:V=N*(V/N)+V%N:=(Nat.div_add_mod V N).symm
   have:x+4294967296*V=(x+V%N*4294967296)+N*(V/N*4294967296):=by
    conv=>lhs;rw [hq]
    rw [Nat.mul_add,←Nat.mul_assoc,Nat.mul_comm 4294967296 N,Nat.mul_assoc,Nat.mul_comm 4294967296 (V/N),Nat.mul_comm 4294967296 (V%N)];omega
   rw [this,Nat.add_mul_div_left _ _ hN]
  have hs:(x+x'%N*4294967296)/N<4294967296:=by
   rw [Nat.div_lt_iff_lt_mul hN]
   have h1:x'%N+1≤N:=Nat.mod_lt _ hN
   have h2:=Nat.mul_le_mul_right 4294967296 h1
   rw [Nat.mul_comm 4294967296 N]
   omega
  rw [e2,Nat.add_mul_mod_self_right,Nat.mod_eq_of_lt hs,e3,e1]
  omega
theorem take_step {us vs zs:List Nat} {i c b n:Nat} (hi:i<zs.length) (hu:us.getD i 0<4294967296) (hb:b≤1) (h:val (zs.take i)+n*val (vs.take i)=val (us.take i)+4294967296^i*(c+b)):
 val ((zs.set i (subD (us.getD i 0) ((c+n*vs.getD i 0)%4294967296) b%4294967296)).take (i+1))+n*val (vs.take (i+1))=
  val (us.take (i+1))+4294967296^(i+1)*((c+n*vs.getD i 0)/4294967296+subD (us.getD i 0) ((c+n*vs.getD i 0)%4294967296) b/9223372036854775808)∧
  subD (us.getD i 0) ((c+n*vs.getD i 0)%4294967296) b/9223372036854775808≤1:=by
 rw [val_set_take hi,val_take_succ vs,val_take_succ us,Nat.mul_add,Nat.pow_succ]
 have e0:n*(4294967296^i*vs.getD i 0)=4294967296^i*(n*vs.getD i 0):=by rw [←Nat.mul_assoc,Nat.mul_comm n,Nat.mul_assoc]
 rw [e0]
 generalize hU:us.getD i 0=u at*
 generalize hV:n*vs.getD i 0=p at*
 generalize hP:4294967296^i=P at*
 have hm:(c+p)%4294967296<4294967296:=Nat.mod_lt _ om
 have hdm:=Nat.div_add_mod (c+p) 4294967296
 generalize (c+p)%4294967296=l at*
 generalize (c+p)/4294967296=q at*
 refine⟨?_,by unfold subD;omega⟩
 have key:u+4294967296*(subD u l b/9223372036854775808)=subD u l b%4294967296+l+b:=by unfold subD;omega
 generalize subD u l b%4294967296=d at*
 generalize subD u l b/9223372036854775808=b' at*
 have k2:=congrArg (P* ·) key
 simp only [Nat.mul_add] at k2
 have k3:=congrArg (P* ·) hdm
 simp only [Nat.mul_add] at k3
 simp only [Nat.mul_add] at h⊢
 rw [Nat.mul_assoc P 4294967296 q,Nat.mul_assoc P 4294967296 b']
 omega
theorem take_carry {c n y:Nat} (hc:c<4294967296) (hn:n<4294967296) (hy:y<4294967296):c+n*y<18446744073709551616∧(c+n*y)/4294967296<4294967296:=by
 have:=mul_bound hn hy
 omega
theorem guess_down {V W D v1 v2 head w2 wr g rest:Nat} (hV:(v1*4294967296+v2)*D≤V) (hW:W=(head*4294967296+w2)*D+wr) (hr:wr<D) (hg:g*v1+rest=head) (hc:rest*4294967296+w2<g*v2):W<g*V:=by
 have h1:head*4294967296+w2+1≤g*(v1*4294967296+v2):=by
  rw [←hg,Nat.mul_add,←Nat.mul_assoc,Nat.add_mul];omega
 have h2:(head*4294967296+w2+1)*D≤g*V:=by
  refine Nat.le_trans (Nat.mul_le_mul_right D h1) ?_
  rw [Nat.mul_assoc]
  exact Nat.mul_le_mul_left g hV
 rw [Nat.add_mul,Nat.one_mul] at h2
 omega
theorem guess_up {V W D v1 v2 head w2 wr g rest vr:Nat} (hV:V=(v1*4294967296+v2)*D+vr) (hvr:vr<D) (hv1:1≤v1) (hW:W=(head*4294967296+w2)*D+wr) (hg:g*v1+rest=head) (hlt:g<4294967296) (hc:g*v2≤rest*4294967296+w2):g*V<W+V:=by
 have h1:g*(v1*4294967296+v2)≤head*4294967296+w2:=by
  rw [←hg,Nat.mul_add,←Nat.mul_assoc,Nat.add_mul];omega
 have h2:g*((v1*4294967296+v2)*D)≤(head*4294967296+w2)*D:=by
  rw [←Nat.mul_assoc];exact Nat.mul_le_mul_right D h1
 have h3:g*vr≤4294967296*D:=Nat.mul_le_mul (Nat.le_of_lt hlt) (Nat.le_of_lt hvr)
 have h4:4294967296*D≤(v1*4294967296+v2)*D:=Nat.mul_le_mul_right D om
 have hD:0<D:=by omega
 have h5:g*vr<4294967296*D∨D=0:=by
  rcases Nat.eq_zero_or_pos g with h|h
  ·subst h;left;omega
  ·left
   have:g*vr<g*D:=Nat.mul_lt_mul_of_pos_left hvr h
   have h6:g*D≤4294967296*D:=Nat.mul_le_mul_right D (Nat.le_of_lt hlt)
   omega
 have h7:g*V=g*((v1*4294967296+v2)*D)+g*vr:=by rw [hV,Nat.mul_add]
 omega
theorem guess_small {v1 head u1 g rest:Nat} (hh:head≤v1*4294967296+u1) (hu:u1<4294967296) (hg:g*v1+rest=head) (hr:4294967296≤rest):g<4294967296:=by
 rcases Nat.lt_or_ge g 4294967296 with h|h
 ·exact h
 ·have h2:=Nat.mul_le_mul_right v1 h
  rw [Nat.mul_comm 4294967296 v1] at h2
  omega
def win (ys:List Nat) (off:Nat) (zs:List Nat):List Nat:=ys.take off++(zs++ys.drop (off+zs.length))
theorem win_length {ys zs:List Nat} {off:Nat} (h:off+zs.length≤ys.length):(win ys off zs).length=ys.length:=by
 simp [win];omega
theorem win_getD {ys zs:List Nat} {off i:Nat} (h:off≤ys.length) (hi:i<zs.length):(win ys off zs).getD (off+i) 0=zs.getD i 0:=by
 unfold win
 rw [List.getD_eq_getElem?_getD,List.getElem?_append_right (by simp;omega),List.getElem?_append_left (by simp;omega),List.getD_eq_getElem?_getD]
 congr 2;simp;omega
theorem win_set {ys zs:List Nat} {off i v:Nat} (h:off≤ys.length) (hi:i<zs.length):(win ys off zs).set (off+i) v=win ys off (zs.set i v):=by
 unfold win
 rw [List.set_append,if_neg (by simp;omega),List.set_append,if_pos (by simp;omega)]
 simp only [List.length_set,List.length_take]
 rw [show off+i-min off ys.length=i from by omega]
theorem win_self {ys:List Nat} {off L:Nat} (h:off+L≤ys.length):win ys off ((ys.drop off).take L)=ys:=by
 unfold win
 rw [show off+((ys.drop off).take L).length=off+L from by simp;omega,←List.drop_drop,List.take_append_drop,List.take_append_drop]
theorem val_win {ys zs:List Nat} {off:Nat} (h:off≤ys.length):val (win ys off zs)=val (ys.take off)+4294967296^off*(val zs+4294967296^zs.length*val (ys.drop (off+zs.length))):=by
 unfold win
 rw [val_append,val_append,List.length_take,Nat.min_eq_left h]
theorem win_lt {ys zs:List Nat} {off:Nat} (hy:∀x∈ys,x<4294967296) (hz:∀x∈zs,x<4294967296):∀x∈win ys off zs,x<4294967296:=fun x hx=>by
 unfold win at hx
 simp only [List.mem_append] at hx
 rcases hx with h|h|h
 ·exact hy x (List.mem_of_mem_take h)
 ·exact hz x h
 ·exact hy x (List.mem_of_mem_drop h)
end Go.PN
namespace Go.Proofs.YtfcnbgmclfkfcaaGreat
open Go.AI Go.PN
attribute [local irreducible] aw Fa Fh DrK
set_option maxHeartbeats 1600000 in
theorem left_fh (xs:List Nat) (n:Nat) (hx:∀x∈xs,x<4294967296) (hlx:xs.length≤68719476736) (hn:n<32):
 Fh Tryz.prog 189 [] [.c (ws false xs),.c (.int .i64 n)] (fun r h=>∃g zs,r=.c (.osl g 1 0 (xs.length+1))∧h=[(g,.cells 130 (xs.length+1) (wf zs))]∧zs.length=xs.length+1∧(∀y∈zs,y<4294967296)∧val zs=val xs*2^n):=by
 refine fh_of_body Tryz.func189 rfl rfl (by simp [Tryz.ntmps189]) fun C hC=> ?_
 simp only [initS,Nat.reduceAdd]
 refine xG ?_
 refine aw_make (n:=xs.length+1) (c:=xs.length+1) rfl rfl rfl ty_e_ws ty_z_u32 rfl om eE eE rfl rfl om om om fun g hg=> ?_
 rw [make_wf (xs.length+1)]
 refine xSG ?_
 refine aw_lp (fun x:Nat×List Nat=>[(0,.c (ws false xs)),(1,.c (.int .i64 n)),(5,.c (.osl g 1 0 (xs.length+1))),(13,.c (ws false xs)),(14,.c (.int .i64 xs.length)),(15,.c (.int .i64 x.1))]) (fun x=>[(g,.cells 130 (xs.length+1) (wf x.2))])
  (fun x=>x.1≤xs.length∧x.2.length=xs.length+1∧(∀y∈x.2,y<4294967296)∧x.2.getD x.1 0<2^n∧(∀j,x.1<j→x.2.getD j 0=0)∧val x.2=val (xs.take x.1)*2^n) (fun x=>xs.length-x.1) (0,List.replicate (xs.length+1) 0) eB zZ
  ⟨by omega,by simp,replicate_lt _,by rw [getD_replicate];exact Nat.two_pow_pos n,fun j _=>getD_replicate _ _,by simp [val_replicate,val]⟩ ?_
 rintro ⟨i,zs⟩ ⟨hi,hzl,hz,hlow,hhi,hv⟩
 dsimp only at hi hzl hz hlow hhi hv⊢
 refine xG ?_
 refine aw_cond eE (fun hb1=> ?_) (fun hb1=> ?_)
 ·have hi1:i<xs.length:=dT hb1
  have hxi:=getD_lt hx i
  refine xG ?_
  rw [shl_u64 _ n hxi om]
  refine xG ?_
  have hml:xs.getD i 0*2^n%4294967296<4294967296:=Nat.mod_lt _ om
  rw [wrap_u32_nat,or_u32 _ _ (by have:=getD_lt hz i;omega) hml,or_low om hlow]
  have hvl:=or_low_lt (x:=xs.getD i 0) om hlow
  have hst:=left_step (xs:=xs) (zs:=zs) (i:=i) (n:=n) om (hhi _ om) hv
  have hhl:=shl_hi (n:=n) hxi
  have hp32:2^n≤4294967296:=pow_lt_32 om
  refine xW ?_
  refine xS ?_
  rw [updF_wf om]
  refine xG ?_
  rw [nat_div_32,wrap_u32_nat,Nat.mod_eq_of_lt (show xs.getD i 0*2^n/4294967296<4294967296 from by omega)]
  refine xW ?_
  refine xS ?_
  rw [updF_wf (by simp;omega)]
  refine xG ?_
  refine aw_stop ⟨(i+1,_),by dsimp only;omega,eB,zZ,by dsimp only;omega,by simpa using hzl,set_lt (set_lt hz hvl) om,?_,fun j hj=> ?_,hst⟩
  ·dsimp only
   rw [PN.getD_set (by simp;omega)];exact hhl
  ·dsimp only at hj⊢
   rw [PN.getD_set_ne om,PN.getD_set_ne om];exact hhi j om
 ·have hi1:i=xs.length:=dF hb1
  subst hi1
  refine xGU ?_
  exact⟨g,zs,rfl,rfl,hzl,hz,by rw [hv,List.take_length]⟩
set_option maxHeartbeats 1600000 in
theorem right_fa (xs:List Nat) (n:Nat) (hx:∀x∈xs,x<4294967296) (hlx:xs.length≤68719476738) (hn:n<32):
 Fa Tryz.prog 192 [.c (ws false xs),.c (.int .i64 n)] (.c (ws true (rgt n xs))):=by
 refine fa_of_body Tryz.func192 rfl rfl (by simp [Tryz.ntmps192]) fun C hC=> ?_
 simp only [initS,Nat.reduceAdd]
 refine xG ?_
 refine aw_make (n:=xs.length) (c:=xs.length) rfl rfl rfl ty_e_ws ty_z_u32 rfl om eE eE rfl rfl om om om fun g hg=> ?_
 rw [make_wf xs.length]
 refine xSG ?_
 refine aw_lp (fun x:Nat×List Nat=>[(0,.c (ws false xs)),(1,.c (.int .i64 n)),(5,.c (.osl g 1 0 xs.length)),(11,.c (.int .i64 xs.length)),(12,.c (.int .i64 x.1))]) (fun x=>[(g,.cells 130 xs.length (wf x.2))])
  (fun x=>x.1≤xs.length∧x.2.length=xs.length∧(∀j,j<x.1→x.2.getD j 0=(rgt n xs).getD j 0)) (fun x=>xs.length-x.1) (0,List.replicate xs.length 0) eB zZ
  ⟨by omega,by simp,fun j hj=>by dsimp only at hj;omega⟩ ?_
 rintro ⟨i,zs⟩ ⟨hi,hzl,hv⟩
 dsimp only at hi hzl hv⊢
 refine xG ?_
 refine aw_cond eE (fun hb1=> ?_) (fun hb1=> ?_)
 ·have hi1:i<xs.length:=dT hb1
  have hxi:=getD_lt hx i
  have hxj:=getD_lt hx (i+1)
  refine xG ?_
  refine aw_callq (word_fa xs i hx) rfl rfl rfl eL ?_
  refine xSG ?_
  refine aw_callq (word_fa xs (i+1) hx) rfl rfl rfl eL ?_
  refine xSG ?_
  rw [shl_u64_32 _ hxj,or_u64_join' _ _ hxj hxi]
  refine xG ?_
  rw [shr_u64 _ n om,wrap_u32_nat]
  have hr:=rgt_getD n xs i hi1
  rw [Nat.add_comm (xs.getD i 0)] at hr
  refine xW ?_
  refine xS ?_
  rw [updF_wf om]
  refine xG ?_
  refine aw_stop ⟨(i+1,_),by dsimp only;omega,eB,zZ,by dsimp only;omega,by simpa using hzl,fun j hj=> ?_⟩
  dsimp only at hj⊢
  by_cases e:j=i
  ·rw [e,PN.getD_set om,hr]
  ·rw [PN.getD_set_ne om];exact hv j om
 ·have hi1:i=xs.length:=dF hb1
  subst hi1
  refine xGT hC ?_
  refine .one (.c (ler_oslws eE om (rgt_length n xs).symm (fun j hj=> ?_)))
  rw [Nat.zero_add,wf_at,hv j hj]
end Go.Proofs.YtfcnbgmclfkfcaaGreat
namespace Go.Proofs.YtfcnbgmclfkfcaaGreat
open Go.AI Go.PN
attribute [local irreducible] aw Fa Fh DrK
set_option maxHeartbeats 800000 in
theorem cmp_fa (xs ys:List Nat) (hx:∀x∈xs,x<4294967296) (hy:∀x∈ys,x<4294967296) (hlx:xs.length≤68719476736) (hly:ys.length≤68719476736):
 Fa Tryz.prog 148 [.c (ws false xs),.c (ws false ys)] (.c (.int .i64 (cmpN (val xs) (val ys)))):=by
 refine fa_of_body Tryz.func148 rfl rfl (by simp [Tryz.ntmps148]) fun C hC=> ?_
 simp only [initS,Nat.reduceAdd]
 refine xG ?_
 refine aw_callq (trim_fa xs hx om) rfl rfl rfl eL ?_
 refine xSG ?_
 refine aw_callq (trim_fa ys hy om) rfl rfl rfl eL ?_
 refine xS ?_
 generalize hvx:val xs=a
 generalize hvy:val ys=b
 have hla:(words a).length≤68719476736:=by rw [←hvx];exact Nat.le_trans (words_val_len xs hx) hlx
 have hlb:(words b).length≤68719476736:=by rw [←hvy];exact Nat.le_trans (words_val_len ys hy) hly
 refine xG ?_
 refine aw_cond eE (fun hb=> ?_) (fun hb=> ?_)
 ·have hne:(words a).length≠(words b).length:=by simp at hb;omega
  refine xG ?_
  refine aw_cond eE (fun hb=> ?_) (fun hb=> ?_)
  ·have hlt:(words a).length<(words b).length:=by simpa using hb
   refine xGT hC ?_
   exact .one (.c (ler_int (cmpN_len_lt hlt).symm))
  ·have hge:¬((words a).length:Int)<(words b).length:=by simpa using hb
   refine xGT hC ?_
   exact .one (.c (ler_int (cmpN_len_gt om).symm))
 ·have hlen:(words a).length=(words b).length:=by simp at hb;omega
  refine xG ?_
  refine aw_lp (fun m:Nat=>[(0,.c (ws true (words a))),(1,.c (ws true (words b))),(5,.c (.int .i64 ((m:Int)-1)))]) (fun _=>[]) (fun m=>m≤(words a).length∧(words a).drop m=(words b).drop m) id (words a).length eB zZ
   ⟨Nat.le_refl _,by rw [List.drop_eq_nil_of_le (Nat.le_refl _),List.drop_eq_nil_of_le om]⟩ ?_
  rintro m ⟨hm,hd⟩
  refine xG ?_
  refine aw_cond eE (fun hb=> ?_) (fun hb=> ?_)
  ·have hm1:1≤m:=dT hb
   have e1:((m:Int)-1).toNat=m-1:=by omega
   refine xG ?_
   refine aw_dr 9 ty_mixed (by kernel_rfl) ?_
   refine xG ?_
   refine aw_cond eE (fun hb=> ?_) (fun hb1=> ?_)
   ·have hlt:(words a).getD (m-1) 0<(words b).getD (m-1) 0:=dT hb
    refine xGT hC ?_
    have:=word_lt (words_lt a) (words_lt b) om om (by rw [show m-1+1=m from by omega];exact hd) hlt
    rw [val_words,val_words] at this
    exact .one (.c (ler_int (by simp [cmpN,this])))
   ·have hge:¬((words a).getD (m-1) 0<(words b).getD (m-1) 0):=dF hb1
    refine xG ?_
    refine aw_dr 9 ty_mixed (by kernel_rfl) ?_
    refine xG ?_
    refine aw_cond eE (fun hb=> ?_) (fun hb2=> ?_)
    ·have hgt:(words b).getD (m-1) 0<(words a).getD (m-1) 0:=dT hb
     refine xGT hC ?_
     have:=word_lt (words_lt b) (words_lt a) om om (by rw [show m-1+1=m from by omega];exact hd.symm) hgt
     rw [val_words,val_words] at this
     exact .one (.c (ler_int (by unfold cmpN;rw [if_neg om,if_neg om])))
    ·have hle:¬((words b).getD (m-1) 0<(words a).getD (m-1) 0):=dF hb2
     refine xG ?_
     refine aw_stop ⟨m-1,by simp only [id];omega,eB,zZ,by omega,?_⟩
     rw [drop_getD (words a) (i:=m-1) om,drop_getD (words b) (i:=m-1) om,show m-1+1=m from by omega,hd]
     congr 1
     omega
  ·have hm0:m=0:=dF hb
   subst hm0
   refine xGT hC ?_
   have:a=b:=words_inj (by simpa using hd)
   exact .one (.c (ler_int (by simp [cmpN,this])))
set_option maxHeartbeats 800000 in
theorem of_fa (n:Int) (h0: -9223372036854775808≤n) (h1:n≤9223372036854775807):Fa Tryz.prog 169 [.c (.int .i64 n)] (.c (ws true (words n.toNat))):=by
 refine fa_of_body Tryz.func169 rfl rfl (by simp [Tryz.ntmps169]) fun C hC=> ?_
 simp only [initS,Nat.reduceAdd]
 refine xG ?_
 refine aw_cond eE (fun hb=> ?_) (fun hb=> ?_)
 ·have hn:n≤0:=of_decide_eq_true hb
  refine xGT hC ?_
  rw [show n.toNat=0 from by omega,words_zero]
  exact .one (.c .nils)
 ·have hn:¬n≤0:=of_decide_eq_false hb
  refine xG ?_
  have e1:wrapZ .u32 n=((n.toNat%4294967296:Nat):Int):=by rw [wrapZ_eq,IntKind.wrap_u32];omega
  have e2:wrapZ .u32 (n/4294967296)=((n.toNat/4294967296:Nat):Int):=by rw [wrapZ_eq,IntKind.wrap_u32];omega
  rw [e1,e2]
  refine aw_buildSlice (xs:=[.tmp 6,.tmp 9]) (cells:=[.int .u32 ((n.toNat%4294967296:Nat):Int),.int .u32 ((n.toNat/4294967296:Nat):Int)]) rfl rfl rfl ty_e_ws (by rw [envP,ty_z_u32];rfl) rfl om om (by intro x hx;simp only [List.mem_cons,List.not_mem_nil,or_false] at hx;rcases hx with rfl|rfl<;>exact⟨rfl,rfl,rfl⟩) eE fun g hg=> ?_
  refine xS ?_
  refine aw_callq (trim_fa [n.toNat%4294967296,n.toNat/4294967296] (by intro x hx;simp only [List.mem_cons,List.not_mem_nil,or_false] at hx;rcases hx with rfl|rfl<;>omega) (by simp)) rfl rfl rfl
   (by refine xS ?_;exact .c (lec_oslws eE om rfl (fun j hj=>by match j,hj with|0,_=>rfl|1,_=>rfl))) ?_
  refine xSGT hC ?_
  rw [show val [n.toNat%4294967296,n.toNat/4294967296]=n.toNat from by simp [val];omega]
  exact .one (.c ler_ws)
end Go.Proofs.YtfcnbgmclfkfcaaGreat
