/- Parts of one proof, laid by a program. -/
import Derived.Test.YtfcnbgmclfkfcaaGreatM00
import Derived.Test.YtfcnbgmclfkfcaaGreatM30
set_option linter.unusedSimpArgs false
set_option linter.unusedVariables false
namespace Go.Proofs.YtfcnbgmclfkfcaaGreat
open Go.AI Go.PN
attribute [local irreducible] aw Fa Fh DrK
set_option maxHeartbeats 800000 in
theorem rcmp_fa (a b:RD) (ha:a.wf 500000000) (hb:b.wf 500000000):Fa Tryz.prog 94 [.agg (rdc a),.agg (rdc b)] (.c (.int .i64 (signQ (a.q-b.q)))):=by
 refine fa_of_body Tryz.func94 rfl rfl (by simp [Tryz.ntmps94]) fun C hC=> ?_
 simp only [initS,Nat.reduceAdd]
 refine xG ?_
 refine xB fun g2 hn_g2=>?_
 refine yB hn_g2 fun g3 hn_g3=>?_
 have J1:=oj hn_g2 hn_g3
 refine yG J1 ?_
 refine yC J1 (rsub_fa a b (wf_mono ha ?_) (wf_mono hb ?_)) ?_
 ·omega
 ·omega
 refine yG J1 ?_
 refine yC J1 (rsign_fa _ ?_) ?_
 ·exact sub_wf om ha hb om
 rw [rd_q]
 refine yGT hC J1 ?_
 exact .one (.c (.int _ _))
end Go.Proofs.YtfcnbgmclfkfcaaGreat
namespace Go.PN
structure LtOk (lt:Int→Int→Bool):Prop where
 irrefl:∀x,lt x x=false
 trans:∀x y z,lt x y=true→lt y z=true→lt x z=true
 total:∀x y,x≠y→lt x y=false→lt y x=true
def AscR (lt:Int→Int→Bool) (g:Nat→Int) (a b:Nat):Prop:=∀i j,a≤i→i<j→j<b→lt (g i) (g j)=true
def MemR (g:Nat→Int) (a b:Nat) (x:Int):Prop:=∃i,a≤i∧i<b∧g i=x
structure ShufR (g h:Nat→Int) (a b:Nat):Prop where
 out:∀i,(i<a∨b≤i)→h i=g i
 mem:∀x,MemR h a b x↔MemR g a b x
theorem ShufR.refl (g:Nat→Int) (a b:Nat):ShufR g g a b:=⟨fun _ _=>rfl,fun _=>Iff.rfl⟩
theorem ShufR.trans {g h k:Nat→Int} {a b:Nat} (p:ShufR g h a b) (q:ShufR h k a b):ShufR g k a b:=
 ⟨fun i hi=>(q.out i hi).trans (p.out i hi),fun x=>(q.mem x).trans (p.mem x)⟩
theorem ShufR.widen {g h:Nat→Int} {a b c d:Nat} (p:ShufR g h a b) (ha:c≤a) (hb:b≤d):ShufR g h c d:=by
 refine⟨fun i hi=>p.out i om,fun x=>⟨?_,?_⟩⟩
 ·rintro ⟨i,h1,h2,h3⟩
  by_cases hin:a≤i∧i<b
  ·obtain⟨j,j1,j2,j3⟩:=(p.mem x).1 ⟨i,hin.1,hin.2,h3⟩
   exact⟨j,by omega,by omega,j3⟩
  ·exact⟨i,h1,h2,by rw [←p.out i om];exact h3⟩
 ·rintro ⟨i,h1,h2,h3⟩
  by_cases hin:a≤i∧i<b
  ·obtain⟨j,j1,j2,j3⟩:=(p.mem x).2 ⟨i,hin.1,hin.2,h3⟩
   exact⟨j,by omega,by omega,j3⟩
  ·exact⟨i,h1,h2,by rw [p.out i om];exact h3⟩
theorem AscR.same {lt:Int→Int→Bool} {g h:Nat→Int} {a b:Nat} (p:AscR lt g a b) (e:∀i,a≤i→i<b→h i=g i):AscR lt h a b:=fun i j h1 h2 h3=>by
 rw [e i h1 om,e j om h3];exact p i j h1 h2 h3
theorem AscR.sub {lt:Int→Int→Bool} {g:Nat→Int} {a b c d:Nat} (p:AscR lt g a b) (h1:a≤c) (h2:d≤b):AscR lt g c d:=fun i j q1 q2 q3=>p i j om q2 om
theorem asc_join {lt:Int→Int→Bool} {g:Nat→Int} {a m b:Nat} (p:AscR lt g a m) (q:AscR lt g m b) (h:∀x y,MemR g a m x→MemR g m b y→lt x y=true):AscR lt g a b:=fun i j h1 h2 h3=>by
 by_cases hi:j<m
 ·exact p i j h1 h2 hi
 ·by_cases hj:m≤i
  ·exact q i j hj h2 h3
  ·exact h _ _ ⟨i,h1,by omega,rfl⟩ ⟨j,by omega,h3,rfl⟩
structure RotR (g h:Nat→Int) (a m b:Nat):Prop where
 lo:∀p,a≤p→p<a+(b-m)→h p=g (m+(p-a))
 hi:∀p,a+(b-m)≤p→p<b→h p=g (a+(p-(a+(b-m))))
 out:∀p,(p<a∨b≤p)→h p=g p
theorem RotR.shuf {g h:Nat→Int} {a m b:Nat} (r:RotR g h a m b) (h1:a≤m) (h2:m≤b):ShufR g h a b:=by
 refine⟨r.out,fun x=>⟨?_,?_⟩⟩
 ·rintro ⟨p,p1,p2,p3⟩
  by_cases hp:p<a+(b-m)
  ·exact⟨m+(p-a),by omega,by omega,by rw [←r.lo p p1 hp];exact p3⟩
  ·exact⟨a+(p-(a+(b-m))),by omega,by omega,by rw [←r.hi p om p2];exact p3⟩
 ·rintro ⟨p,p1,p2,p3⟩
  by_cases hp:p<m
  ·refine⟨a+(b-m)+(p-a),by omega,by omega,?_⟩
   rw [r.hi _ om om,show a+(a+(b-m)+(p-a)-(a+(b-m)))=p from by omega];exact p3
  ·refine⟨a+(p-m),by omega,by omega,?_⟩
   rw [r.lo _ om om,show m+(a+(p-m)-a)=p from by omega];exact p3
structure SymR (lt:Int→Int→Bool) (g:Nat→Int) (a s m e b:Nat):Prop where
 aS:a≤s
 sm:s≤m
 me:m≤e
 eb:e≤b
 left:AscR lt g a m
 right:AscR lt g m b
 low:∀i j,a≤i→i<s→e≤j→j<b→lt (g i) (g j)=true
 high:∀i j,s≤i→i<m→m≤j→j<e→lt (g j) (g i)=true
theorem SymR.parts {lt:Int→Int→Bool} {g h:Nat→Int} {a s m e b:Nat} (q:SymR lt g a s m e b) (r:RotR g h s m e):
 AscR lt h a s∧AscR lt h s (s+(e-m))∧AscR lt h (s+(e-m)) e∧AscR lt h e b∧∀x y,MemR h a (s+(e-m)) x→MemR h (s+(e-m)) b y→lt x y=true:=by
 have q1:=q.aS
 have q2:=q.sm
 have q3:=q.me
 have q4:=q.eb
 have o:∀i,(i<s∨e≤i)→h i=g i:=r.out
 refine⟨(q.left.sub (Nat.le_refl _) q2).same fun i _ hi=>o i (.inl hi),fun i j i1 i2 i3=> ?_,fun i j i1 i2 i3=> ?_,(q.right.sub q3 (Nat.le_refl _)).same fun i hi _=>o i (.inr hi),?_⟩
 ·rw [r.lo i i1 om,r.lo j om i3]
  exact q.right _ _ om om om
 ·rw [r.hi i i1 om,r.hi j om i3]
  exact q.left _ _ om om om
 ·rintro x y ⟨i,i1,i2,rfl⟩ ⟨j,j1,j2,rfl⟩
  by_cases hi:i<s
  ·rw [o i (.inl hi)]
   by_cases hj:j<e
   ·rw [r.hi j j1 hj]
    exact q.left _ _ om om om
   ·rw [o j (.inr om)]
    exact q.low i j i1 hi om j2
  ·rw [r.lo i om i2]
   by_cases hj:j<e
   ·rw [r.hi j j1 hj]
    exact q.high _ _ om om om om
   ·rw [o j (.inr om)]
    exact q.right _ _ om om j2
theorem SymR.done {lt:Int→Int→Bool} {g h k l:Nat→Int} {a s m e b:Nat} (q:SymR lt g a s m e b) (r:RotR g h s m e)
 (k1:ShufR h k a (s+(e-m))) (k2:AscR lt k a (s+(e-m))) (l1:ShufR k l (s+(e-m)) b) (l2:AscR lt l (s+(e-m)) b):ShufR g l a b∧AscR lt l a b:=by
 have q1:=q.aS
 have q2:=q.sm
 have q3:=q.me
 have q4:=q.eb
 obtain⟨_,_,_,_,hx⟩:=q.parts r
 refine⟨((r.shuf q2 q3).widen q1 q4).trans ((k1.widen (Nat.le_refl _) om).trans (l1.widen om (Nat.le_refl _))),?_⟩
 have la:AscR lt l a (s+(e-m)):=k2.same fun i _ hi=>l1.out i (.inl hi)
 refine asc_join la l2 fun x y mx my=>hx x y ?_ ?_
 ·obtain⟨i,i1,i2,i3⟩:=mx
  exact(k1.mem x).1 ⟨i,i1,i2,by rw [←l1.out i (.inl i2)];exact i3⟩
 ·obtain⟨i,i1,i2,i3⟩:=(l1.mem y).1 my
  exact⟨i,i1,i2,by rw [←k1.out i (.inr i1)];exact i3⟩
end Go.PN
namespace Go.PN
def updR (g:Nat→Int) (i:Nat) (v:Int):Nat→Int:=fun j=>if j=i then v else g j
def swapR (g:Nat→Int) (i j:Nat):Nat→Int:=fun p=>if p=i then g j else if p=j then g i else g p
theorem swap_upd (g:Nat→Int) (i j:Nat):updR (updR g i (g j)) j (g i)=swapR g i j:=by
 funext p
 unfold updR swapR
 by_cases h1:p=j
 ·subst h1
  rw [if_pos rfl]
  by_cases h2:p=i
  ·subst h2;rw [if_pos rfl]
  ·rw [if_neg h2,if_pos rfl]
 ·rw [if_neg h1,if_neg h1]
theorem RotR.refl (g:Nat→Int) (a b:Nat):RotR g g a b b:=⟨fun p _ h=>by omega,fun p h _=>by rw [show a+(p-(a+(b-b)))=p from by omega],fun _ _=>rfl⟩
theorem RotR.refl' (g:Nat→Int) (a b:Nat):RotR g g a a b:=⟨fun p h _=>by rw [show a+(p-a)=p from by omega],fun p h1 h2=>by omega,fun _ _=>rfl⟩
theorem rot_down {g h:Nat→Int} {j i:Nat} (r:RotR g h j i (i+1)) (hj:0<j) (hi:j≤i):RotR g (swapR h j (j-1)) (j-1) i (i+1):=by
 refine⟨fun p h1 h2=> ?_,fun p h1 h2=> ?_,fun p hp=> ?_⟩
 ·have:p=j-1:=by omega
  subst this
  unfold swapR
  rw [if_neg om,if_pos rfl,r.lo j om om]
  congr 1;omega
 ·unfold swapR
  by_cases e:p=j
  ·subst e
   rw [if_pos rfl,r.out (p-1) om]
   congr 1;omega
  ·rw [if_neg e,if_neg om,r.hi p om om]
   congr 1;omega
 ·unfold swapR
  rw [if_neg om,if_neg om,r.out p om]
theorem rot_up {g h:Nat→Int} {a k:Nat} (r:RotR g h a (a+1) (k+1)) (hk:a≤k):RotR g (swapR h k (k+1)) a (a+1) (k+2):=by
 refine⟨fun p h1 h2=> ?_,fun p h1 h2=> ?_,fun p hp=> ?_⟩
 ·unfold swapR
  by_cases e:p=k
  ·subst e
   rw [if_pos rfl,r.out (p+1) om]
   congr 1;omega
  ·rw [if_neg e,if_neg om,r.lo p h1 om]
 ·have:p=k+1:=by omega
  subst this
  unfold swapR
  rw [if_neg om,if_pos rfl,r.hi k om om]
  congr 1;omega
 ·unfold swapR
  rw [if_neg om,if_neg om,r.out p om]
theorem ins_last {lt:Int→Int→Bool} {g h:Nat→Int} {a j i:Nat} (ha:a≤j) (hj:j≤i) (q:AscR lt g a i) (r:RotR g h j i (i+1)) (h1:∀p,a≤p→p<j→lt (g p) (g i)=true) (h2:∀p,j≤p→p<i→lt (g i) (g p)=true):
 ShufR g h a (i+1)∧AscR lt h a (i+1):=by
 refine⟨(r.shuf hj om).widen ha (Nat.le_refl _),fun x y x1 x2 x3=> ?_⟩
 have v:∀p,a≤p→p<i+1→h p=if p<j then g p else if p=j then g i else g (p-1):=fun p p1 p2=>by
  by_cases e1:p<j
  ·rw [if_pos e1,r.out p (.inl e1)]
  ·rw [if_neg e1]
   by_cases e2:p=j
   ·subst e2
    rw [if_pos rfl,r.lo p om om]
    congr 1;omega
   ·rw [if_neg e2,r.hi p om p2]
    congr 1;omega
 rw [v x x1 om,v y om x3]
 by_cases e1:x<j
 ·rw [if_pos e1]
  by_cases e2:y<j
  ·rw [if_pos e2];exact q x y x1 x2 om
  ·rw [if_neg e2]
   by_cases e3:y=j
   ·rw [if_pos e3];exact h1 x x1 e1
   ·rw [if_neg e3];exact q x (y-1) x1 om om
 ·rw [if_neg e1,if_neg (show¬y<j by omega),if_neg (show¬y=j by omega)]
  by_cases e3:x=j
  ·rw [if_pos e3];exact h2 (y-1) om om
  ·rw [if_neg e3];exact q (x-1) (y-1) om om om
theorem ins_first {lt:Int→Int→Bool} {g h:Nat→Int} {a i b:Nat} (h0:a+1≤i) (hb:i≤b) (q:AscR lt g (a+1) b) (r:RotR g h a (a+1) i) (h1:∀p,a+1≤p→p<i→lt (g p) (g a)=true) (h2:∀p,i≤p→p<b→lt (g a) (g p)=true):
 ShufR g h a b∧AscR lt h a b:=by
 refine⟨(r.shuf om h0).widen (Nat.le_refl _) hb,fun x y x1 x2 x3=> ?_⟩
 have v:∀p,a≤p→h p=if p+1<i then g (p+1) else if p+1=i then g a else g p:=fun p p1=>by
  by_cases e1:p+1<i
  ·rw [if_pos e1,r.lo p p1 om]
   congr 1;omega
  ·rw [if_neg e1]
   by_cases e2:p+1=i
   ·rw [if_pos e2,r.hi p om om]
    congr 1;omega
   ·rw [if_neg e2,r.out p om]
 rw [v x x1,v y om]
 by_cases e1:x+1<i
 ·rw [if_pos e1]
  by_cases e2:y+1<i
  ·rw [if_pos e2];exact q _ _ om om om
  ·rw [if_neg e2]
   by_cases e3:y+1=i
   ·rw [if_pos e3];exact h1 _ om e1
   ·rw [if_neg e3];exact q _ _ om om x3
 ·rw [if_neg e1,if_neg (show¬y+1<i by omega),if_neg (show¬y+1=i by omega)]
  by_cases e3:x+1=i
  ·rw [if_pos e3];exact h2 y om x3
  ·rw [if_neg e3];exact q x y om x2 x3
structure XchR (g h:Nat→Int) (a b k:Nat):Prop where
 fst:∀p,a≤p→p<a+k→h p=g (b+(p-a))
 snd:∀p,b≤p→p<b+k→h p=g (a+(p-b))
 out:∀p,¬(a≤p∧p<a+k)→¬(b≤p∧p<b+k)→h p=g p
theorem XchR.zero (g:Nat→Int) (a b:Nat):XchR g g a b 0:=⟨fun p h1 h2=>by omega,fun p h1 h2=>by omega,fun _ _ _=>rfl⟩
theorem XchR.step {g h:Nat→Int} {a b k n:Nat} (r:XchR g h a b k) (hk:k<n) (hd:a+n≤b):XchR g (swapR h (a+k) (b+k)) a b (k+1):=by
 refine⟨fun p h1 h2=> ?_,fun p h1 h2=> ?_,fun p h1 h2=> ?_⟩
 ·unfold swapR
  by_cases e:p=a+k
  ·subst e
   rw [if_pos rfl,r.out _ om om]
   congr 1;omega
  ·rw [if_neg e,if_neg om,r.fst p h1 om]
 ·unfold swapR
  by_cases e:p=b+k
  ·subst e
   rw [if_neg om,if_pos rfl,r.out _ om om]
   congr 1;omega
  ·rw [if_neg om,if_neg e,r.snd p h1 om]
 ·unfold swapR
  rw [if_neg om,if_neg om,r.out p om om]
theorem rot_more {g h k:Nat→Int} {m i j:Nat} (hi:i≤m) (hij:j<i) (x:XchR g h (m-i) m j) (r:RotR h k (m-(i-j)) m (m+j)):RotR g k (m-i) m (m+j):=by
 refine⟨fun p h1 h2=> ?_,fun p h1 h2=> ?_,fun p hp=> ?_⟩
 ·rw [r.out p om,x.fst p h1 om]
 ·by_cases e:p<m-(i-j)+j
  ·rw [r.lo p om om,x.snd _ om om]
   congr 1;omega
  ·rw [r.hi p om h2,x.out _ om om]
   congr 1;omega
 ·rw [r.out p om,x.out p om om]
theorem rot_less {g h k:Nat→Int} {m i j:Nat} (hi:i≤m) (hij:i<j) (x:XchR g h (m-i) (m+j-i) i) (r:RotR h k (m-i) m (m+(j-i))):RotR g k (m-i) m (m+j):=by
 refine⟨fun p h1 h2=> ?_,fun p h1 h2=> ?_,fun p hp=> ?_⟩
 ·by_cases e:p<m-i+(j-i)
  ·rw [r.lo p h1 om,x.out _ om om]
  ·rw [r.hi p om om,x.fst _ om om]
   congr 1;omega
 ·rw [r.out p om,x.snd p om om]
  congr 1;omega
 ·rw [r.out p om,x.out p om om]
theorem rot_even {g h:Nat→Int} {m i:Nat} (hi:i≤m) (x:XchR g h (m-i) m i):RotR g h (m-i) m (m+i):=by
 refine⟨fun p h1 h2=> ?_,fun p h1 h2=> ?_,fun p hp=> ?_⟩
 ·rw [x.fst p h1 om]
 ·rw [x.snd p om h2]
  congr 1;omega
 ·rw [x.out p om om]
end Go.PN
namespace Go.PN
theorem sym_of {lt:Int→Int→Bool} (ok:LtOk lt) {g:Nat→Int} {a m b mid n s s0 r0:Nat} (ha:a<m) (hb:m<b) (hmid:mid=(a+b)/2) (hn:n=mid+m) (h0:(mid<m∧s0=n-b∧r0=mid)∨(m≤mid∧s0=a∧r0=m))
 (left:AscR lt g a m) (right:AscR lt g m b) (hs0:s0≤s) (hr0:s≤r0) (hlow:s0<s→lt (g (s-1)) (g (n-s))=true) (hhigh:s<r0→lt (g (n-1-s)) (g s)=true):SymR lt g a s m (n-s) b∧s+(n-s-m)=mid:=by
 have le:∀(q:AscR lt g a m) i j,a≤i→i≤j→j<m→i=j∨lt (g i) (g j)=true:=fun q i j h1 h2 h3=>by
  rcases Nat.lt_or_ge i j with h|h
  ·exact .inr (q i j h1 h h3)
  ·exact .inl om
 refine⟨⟨by omega,by omega,by omega,by omega,left,right,fun i j i1 i2 j1 j2=> ?_,fun i j i1 i2 j1 j2=> ?_⟩,by omega⟩
 ·have hl:=hlow om
  have e1:i=s-1∨lt (g i) (g (s-1))=true:=by
   rcases Nat.lt_or_ge i (s-1) with h|h
   ·exact .inr (left i (s-1) i1 h om)
   ·exact .inl om
  have e2:j=n-s∨lt (g (n-s)) (g j)=true:=by
   rcases Nat.lt_or_ge (n-s) j with h|h
   ·exact .inr (right (n-s) j om h j2)
   ·exact .inl om
  have t1:lt (g i) (g (n-s))=true:=by
   rcases e1 with e|e
   ·rw [e];exact hl
   ·exact ok.trans _ _ _ e hl
  rcases e2 with e|e
  ·rw [e];exact t1
  ·exact ok.trans _ _ _ t1 e
 ·have hh:=hhigh om
  have e1:j=n-1-s∨lt (g j) (g (n-1-s))=true:=by
   rcases Nat.lt_or_ge j (n-1-s) with h|h
   ·exact .inr (right j _ j1 h om)
   ·exact .inl om
  have e2:i=s∨lt (g s) (g i)=true:=by
   rcases Nat.lt_or_ge s i with h|h
   ·exact .inr (left s i om h i2)
   ·exact .inl om
  have t1:lt (g j) (g s)=true:=by
   rcases e1 with e|e
   ·rw [e];exact hh
   ·exact ok.trans _ _ _ e hh
  rcases e2 with e|e
  ·rw [e];exact t1
  ·exact ok.trans _ _ _ t1 e
def IdR (g:Nat→Int) (a b:Nat):Prop:=∀x,MemR g a b x↔(a:Int)≤x∧x<b
theorem idR_start {g:Nat→Int} {a b:Nat} (h:∀i,a≤i→i<b→g i=i):IdR g a b:=fun x=>by
 constructor
 ·rintro ⟨i,h1,h2,rfl⟩
  rw [h i h1 h2];omega
 ·rintro ⟨h1,h2⟩
  exact⟨x.toNat,by omega,by omega,by rw [h _ om om];omega⟩
theorem IdR.shuf {g h:Nat→Int} {a b:Nat} (p:IdR g a b) (q:ShufR g h a b):IdR h a b:=fun x=>(q.mem x).trans (p x)
theorem IdR.join {g:Nat→Int} {a m b:Nat} (h1:a≤m) (h2:m≤b) (p:IdR g a m) (q:IdR g m b):IdR g a b:=fun x=>by
 constructor
 ·rintro ⟨i,i1,i2,i3⟩
  by_cases hi:i<m
  ·have:=(p x).1 ⟨i,i1,hi,i3⟩;omega
  ·have:=(q x).1 ⟨i,by omega,i2,i3⟩;omega
 ·rintro ⟨x1,x2⟩
  by_cases hx:x<m
  ·obtain⟨i,i1,i2,i3⟩:=(p x).2 ⟨x1,hx⟩
   exact⟨i,i1,by omega,i3⟩
  ·obtain⟨i,i1,i2,i3⟩:=(q x).2 ⟨by omega,x2⟩
   exact⟨i,by omega,i2,i3⟩
theorem IdR.same {g h:Nat→Int} {a b:Nat} (p:IdR g a b) (e:∀i,a≤i→i<b→h i=g i):IdR h a b:=fun x=>by
 rw [←p x]
 constructor
 ·rintro ⟨i,h1,h2,h3⟩;exact⟨i,h1,h2,by rw [←e i h1 h2];exact h3⟩
 ·rintro ⟨i,h1,h2,h3⟩;exact⟨i,h1,h2,by rw [e i h1 h2];exact h3⟩
theorem dvd_gap {s a x:Nat} (ha:s∣a) (hx:s∣x) (h1:a≤x) (h2:x<a+s):x=a:=by
 obtain⟨i,rfl⟩:=ha
 obtain⟨j,rfl⟩:=hx
 have h0:0<s:=by omega
 have h3:i≤j:=Nat.le_of_mul_le_mul_left h1 h0
 have h4:j<i+1:=Nat.lt_of_mul_lt_mul_left (a:=s) (by rw [Nat.mul_add,Nat.mul_one];exact h2)
 rw [show j=i from by omega]
def GoodR (lt:Int→Int→Bool) (g:Nat→Int) (s n a:Nat):Prop:=IdR g a (min (a+s) n)∧AscR lt g a (min (a+s) n)
theorem GoodR.same {lt:Int→Int→Bool} {g h:Nat→Int} {s n a:Nat} (p:GoodR lt g s n a) (e:∀i,a≤i→i<min (a+s) n→h i=g i):GoodR lt h s n a:=⟨p.1.same e,p.2.same e⟩
end Go.PN
namespace Go.AI
open Go.PN
def gF (z:Nat→Int):Nat→CV:=fun j=>.int .i64 (z j)
@[go_sem] theorem gF_at (z:Nat→Int) (j:Nat):gF z j=.int .i64 (z j):=rfl
theorem updF_gF (z:Nat→Int) (i:Nat) (v:Int):updF (gF z) i [.int .i64 v]=gF (updR z i v):=by
 funext j
 simp only [updF,gF,updR]
 split<;>rfl
def CmpK (P:Program) (fc:FuncId) (caps:List Nat) (Hc:Heap) (N:Nat) (cb:Int→Int→Bool):Prop:=
 ∀x y:Int,0≤x→x<N→0≤y→y<N→Fh P fc Hc ([.c (.int .i64 x),.c (.int .i64 y)]++caps.map fun g=>.c (.optr g 0)) (fun r h=>∃c:Int,r=.c (.int .i64 c)∧decide (c<0)=cb x y∧h=Hc)
end Go.AI
namespace Go.Proofs.YtfcnbgmclfkfcaaGreat
open Go.AI Go.PN
attribute [local irreducible] aw Fa Fh DrK
set_option maxRecDepth 100000 in
set_option maxHeartbeats 3200000 in
theorem isort_fh (g:Nat) (fc:FuncId) (caps:List Nat) (Hc:Heap) (N:Nat) (cb lt:Int→Int→Bool) (hcb:CmpK Tryz.prog fc caps Hc N cb) (hlt:∀x y:Int,y<x→cb x y=lt x y) (ok:LtOk lt) (a b:Nat) (hab:a≤b) (hbN:b≤N) (hN:N≤1000000) (z:Nat→Int) (hz:∀i,a≤i→i<b→z i=i) (hgc:g∉Hc.keys):
 Fh Tryz.prog 183 ((g,.cells 3 N (gF z))::Hc) [.c (.osl g 1 0 N),.c (.int .i64 a),.c (.int .i64 b),.c (fnC fc caps)] (fun r h=>∃y,ShufR z y a b∧AscR lt y a b∧r=.tup []∧h=(g,.cells 3 N (gF y))::Hc):=by
 refine fh_of_body Tryz.func183 rfl rfl (by simp [Tryz.ntmps183]) fun C hC=> ?_
 simp only [initS,Nat.reduceAdd]
 refine xG ?_
 refine aw_lp (fun x:Nat×(Nat→Int)=>[(0,.c (.osl g 1 0 N)),(1,.c (.int .i64 a)),(2,.c (.int .i64 b)),(3,.c (fnC fc caps)),(8,.c (.int .i64 x.1))]) (fun x=>(g,.cells 3 N (gF x.2))::Hc)
  (fun x=>a+1≤x.1∧(x.1≤b∨x.1=a+1)∧(x.1=a+1→x.2=z)∧ShufR z x.2 a x.1∧AscR lt x.2 a x.1) (fun x=>b-x.1) (a+1,z) eB (List.Sublist.refl _) ⟨Nat.le_refl _,.inr rfl,fun _=>rfl,ShufR.refl _ _ _,fun i j h1 h2 h3=>by omega⟩ ?_
 rintro ⟨i,y⟩ ⟨hi,hib,hyz,hsh,has⟩
 dsimp only at hi hib hyz hsh has⊢
 refine xG ?_
 refine xF (fun h1=>?_) fun h1=>?_
 ·have hin:i<b:=dT h1
  have hyi:y i=(i:Int):=by rw [hsh.out i (.inr (Nat.le_refl _))];exact hz i om hin
  have hyp:∀p,a≤p→p<i→0≤y p∧y p<i:=fun p p1 p2=>by
   obtain⟨q,q1,q2,q3⟩:=(hsh.mem (y p)).1 ⟨p,p1,p2,rfl⟩
   rw [←q3,hz q q1 om];omega
  have fin:∀(w:Nat→Int) (j:Nat),a≤j→j≤i→RotR y w j i (i+1)→(∀p,j≤p→p<i→lt (y i) (y p)=true)→(j=a∨lt (y (j-1)) (y i)=true)→ShufR z w a (i+1)∧AscR lt w a (i+1):=fun w j j1 j2 r hgt hend=>by
   obtain⟨s1,s2⟩:=ins_last (lt:=lt) j1 j2 has r (fun p p1 p2=>by
    rcases hend with e|e
    ·omega
    ·rcases Nat.lt_or_ge p (j-1) with h|h
     ·exact ok.trans _ _ _ (has p (j-1) p1 h om) e
     ·rw [show p=j-1 from by omega];exact e) hgt
   exact⟨(hsh.widen (Nat.le_refl _) om).trans s1,s2⟩
  refine xG ?_
  refine aw_lp (fun x:Nat×(Nat→Int)=>[(0,.c (.osl g 1 0 N)),(1,.c (.int .i64 a)),(2,.c (.int .i64 b)),(3,.c (fnC fc caps)),(8,.c (.int .i64 i)),(9,.c (.int .i64 x.1))]) (fun x=>(g,.cells 3 N (gF x.2))::Hc)
   (fun x=>a≤x.1∧x.1≤i∧RotR y x.2 x.1 i (i+1)∧∀p,x.1≤p→p<i→lt (y i) (y p)=true) (fun x=>x.1) (i,y) eB (List.Sublist.refl _) ⟨by omega,Nat.le_refl _,RotR.refl' y i (i+1),fun p h1 h2=>by omega⟩ ?_
  rintro ⟨j,w⟩ ⟨j1,j2,hr,hgt⟩
  dsimp only at j1 j2 hr hgt⊢
  by_cases hj:a<j
  ·have e1:decide ((j:Int)>(a:Int))=true:=decide_eq_true om
   have ex:((j:Int)-1).toNat=j-1:=by omega
   have ew1:w j=(i:Int):=by rw [hr.lo j (Nat.le_refl _) om,show i+(j-j)=i from by omega,hyi]
   have ew2:w (j-1)=y (j-1):=hr.out _ (.inl om)
   obtain⟨v0,v1⟩:=hyp (j-1) om om
   have hcl:=hlt (i:Int) (y (j-1)) v1
   have J1:=oj e1 (oj ex (oj ew1 ew2))
   refine yG J1 ?_
   refine aw_cw ([(g,.cells 3 N (gF w))]) [(0,0),(1,0),(2,0),(3,0),(4,0),(5,0),(6,0),(7,0),(8,0),(9,0),(10,0),(11,0),(12,0),(13,0),(14,1),(15,0),(16,0)] ty_mixed (by kernel_rfl) eI ?_
   refine yG J1 ?_
   refine cw_callhv (gs:=caps) (hc:=Hc) (hr:=[(g,.cells 3 N (gF w))]) rfl (hcb (i:Int) (y (j-1)) om om v0 om) rfl rfl rfl (zE J1) (List.perm_append_comm (l₁:=[(g,_)])) (zL J1) (by
    rintro _ _ ⟨_,rfl,_,rfl⟩;exact has0_app2 eI) ?_ (hm:=.inr ⟨rfl,rfl⟩)
   rintro _ _ ⟨c,rfl,hc,rfl⟩ _
   refine cw_perm List.perm_append_comm ?_
   simp only [List.cons_append,List.nil_append]
   rw [hcl] at hc
   have J2:=oj e1 (oj ex (oj ew1 (oj ew2 hc)))
   refine ySG J2 ?_
   cases hb:lt (i:Int) (y (j-1))
   ·refine ySGNG J2 ?_
    obtain⟨f1,f2⟩:=fin w j j1 j2 hr hgt (.inr (by
     rw [hyi]
     refine ok.total _ _ (fun e=>by omega) hb))
    exact aw_stop ⟨(i+1,w),by dsimp only;omega,(zB J2),List.Sublist.refl _,by dsimp only;omega,.inl (by dsimp only;omega),(fun e=>by dsimp only at e;omega),f1,f2⟩
   ·refine ySGPG J2 ?_
    refine aw_cw ([(g,.cells 3 N (gF w))]) [(0,0),(1,0),(5,0),(6,0),(7,0),(8,0),(9,0),(10,0),(11,0),(12,0),(13,0),(14,0),(2,3),(3,3),(4,3),(15,2),(16,0),(17,2)] ty_mixed (by kernel_rfl) eI ?_
    refine yG J2 ?_
    iterate 3 (refine wc3 rfl rfl fun R r=> ?_;simp only [go_sem,e1,ex,ew1,ew2,hc];with_reducible show R (some _);with_reducible refine r _ _ ?_;clear r R)
    have J3:=oj e1 (oj ex (oj ew1 (oj ew2 hc)))
    refine yS J3 ?_
    refine cw_store (FP':=[]) rfl rfl rfl rfl rfl (zE J3) (zE J3) (zE J3) (zE J3) (fun _ e=>by cases e) rfl rfl (by show j+1≤N;omega) rfl has0_nil ?_
    simp only [AV.cells]
    refine ySG J3 ?_
    refine cw_store (FP':=[]) rfl rfl rfl rfl rfl (zE J3) (zE J3) (zE J3) (zE J3) (fun _ e=>by cases e) rfl rfl (by show(j-1)+1≤N;omega) rfl has0_nil ?_
    simp only [AV.cells]
    rw [updF_gF,updF_gF,show updR (updR w j (y (j-1))) (j-1) (i:Int)=swapR w j (j-1) from by rw [←swap_upd,ew1,ew2]]
    have J4:=oj e1 (oj ex (oj ew1 (oj ew2 hc)))
    refine ySG J4 ?_
    refine aw_stop ⟨(j-1,swapR w j (j-1)),by dsimp only;omega,(zB J4),List.Sublist.refl _,by dsimp only;omega,by dsimp only;omega,rot_down hr om j2,fun p p1 p2=> ?_⟩
    dsimp only at p1 p2⊢
    rcases Nat.lt_or_ge p j with h|h
    ·rw [show p=j-1 from by omega,hyi];exact hb
    ·exact hgt p h p2
  ·have e1:decide ((j:Int)>(a:Int))=false:=decide_eq_false om
   refine yG e1 ?_
   refine aw_dr 17 ty_mixed (by kernel_rfl) ?_
   refine yGNG e1 ?_
   obtain⟨f1,f2⟩:=fin w j j1 j2 hr hgt (.inl om)
   exact aw_stop ⟨(i+1,w),by dsimp only;omega,(zB e1),List.Sublist.refl _,by dsimp only;omega,.inl (by dsimp only;omega),(fun e=>by dsimp only at e;omega),f1,f2⟩
 ·have hin:¬i<b:=dF h1
  refine xG ?_
  refine xV ?_
  by_cases he:a=b
  ·subst he
   obtain rfl:=hyz om
   exact⟨y,ShufR.refl _ _ _,fun p q p1 p2 p3=>by omega,rfl,rfl⟩
  ·have:i=b:=by omega
   subst this
   exact⟨y,hsh,has,rfl,rfl⟩
end Go.Proofs.YtfcnbgmclfkfcaaGreat
namespace Go.Proofs.YtfcnbgmclfkfcaaGreat
open Go.AI Go.PN
attribute [local irreducible] aw Fa Fh DrK
set_option maxRecDepth 100000 in
set_option maxHeartbeats 3200000 in
theorem swapr_fh (g:Nat) (fc:FuncId) (caps:List Nat) (N a b n:Nat) (hd:a+n≤b) (hbN:b+n≤N) (hN:N≤1000000) (z:Nat→Int):
 Fh Tryz.prog 232 [(g,.cells 3 N (gF z))] [.c (.osl g 1 0 N),.c (.int .i64 a),.c (.int .i64 b),.c (.int .i64 n),.c (fnC fc caps)] (fun r h=>∃y,XchR z y a b n∧r=.tup []∧h=[(g,.cells 3 N (gF y))]):=by
 refine fh_of_body Tryz.func232 rfl rfl (by simp [Tryz.ntmps232]) fun C hC=> ?_
 simp only [initS,Nat.reduceAdd]
 refine xG ?_
 refine aw_lp (fun x:Nat×(Nat→Int)=>[(0,.c (.osl g 1 0 N)),(1,.c (.int .i64 a)),(2,.c (.int .i64 b)),(3,.c (.int .i64 n)),(10,.c (.int .i64 x.1))]) (fun x=>[(g,.cells 3 N (gF x.2))])
  (fun x=>x.1≤n∧XchR z x.2 a b x.1) (fun x=>n-x.1) (0,z) eB zZ ⟨Nat.zero_le _,XchR.zero z a b⟩ ?_
 rintro ⟨k,w⟩ ⟨hk,hx⟩
 dsimp only at hk hx⊢
 refine xG ?_
 refine xF (fun h1=>?_) fun h1=>?_
 ·have hin:k<n:=dT h1
  have ea:((a:Int)+(k:Int)).toNat=a+k:=by omega
  have eb:((b:Int)+(k:Int)).toNat=b+k:=by omega
  refine yG (oj ea eb) ?_
  refine aw_cw ([(g,.cells 3 N (gF w))]) [(0,0),(1,0),(2,0),(3,0),(8,0),(9,0),(10,0),(11,0),(12,0),(13,0),(14,0),(15,0),(16,0),(17,0),(18,0),(19,0),(20,0),(4,3),(5,3),(6,3),(7,3),(21,2),(22,0),(23,2)] ty_mixed (by kernel_rfl) eI ?_
  refine yG (oj ea eb) ?_
  iterate 4 (refine wc3 rfl rfl fun R r=> ?_;simp only [go_sem,ea,eb];with_reducible show R (some _);with_reducible refine r _ _ ?_;clear r R)
  have J1:=oj ea eb
  refine yS J1 ?_
  refine cw_store (FP':=[]) rfl rfl rfl rfl rfl (zE J1) (zE J1) (zE J1) (zE J1) (fun _ e=>by cases e) rfl rfl (by show(a+k)+1≤N;omega) rfl has0_nil ?_
  simp only [AV.cells]
  refine ySG J1 ?_
  refine cw_store (FP':=[]) rfl rfl rfl rfl rfl (zE J1) (zE J1) (zE J1) (zE J1) (fun _ e=>by cases e) rfl rfl (by show(b+k)+1≤N;omega) rfl has0_nil ?_
  simp only [AV.cells]
  rw [updF_gF,updF_gF,swap_upd]
  refine ySG J1 ?_
  exact aw_stop ⟨(k+1,swapR w (a+k) (b+k)),by dsimp only;omega,(zB J1),zZ,by dsimp only;omega,hx.step hin hd⟩
 ·have hin:k=n:=dF h1
  subst hin
  refine xG ?_
  refine xV ?_
  exact⟨w,hx,rfl,rfl⟩
set_option maxRecDepth 100000 in
set_option maxHeartbeats 3200000 in
theorem rotate_fh (g:Nat) (fc:FuncId) (caps:List Nat) (N a m b:Nat) (ha:a<m) (hb:m<b) (hbN:b≤N) (hN:N≤1000000) (z:Nat→Int):
 Fh Tryz.prog 213 [(g,.cells 3 N (gF z))] [.c (.osl g 1 0 N),.c (.int .i64 a),.c (.int .i64 m),.c (.int .i64 b),.c (fnC fc caps)] (fun r h=>∃y,RotR z y a m b∧r=.tup []∧h=[(g,.cells 3 N (gF y))]):=by
 refine fh_of_body Tryz.func213 rfl rfl (by simp [Tryz.ntmps213]) fun C hC=> ?_
 simp only [initS,Nat.reduceAdd]
 refine xG ?_
 refine aw_lp (fun x:Nat×Nat×(Nat→Int)=>[(0,.c (.osl g 1 0 N)),(2,.c (.int .i64 m)),(4,.c (fnC fc caps)),(10,.c (.int .i64 x.1)),(11,.c (.int .i64 x.2.1))]) (fun x=>[(g,.cells 3 N (gF x.2.2))])
  (fun x=>0<x.1∧0<x.2.1∧x.1≤m-a∧x.2.1≤b-m∧∀k,RotR x.2.2 k (m-x.1) m (m+x.2.1)→RotR z k a m b) (fun x=>x.1+x.2.1) (m-a,b-m,z) eB zZ ⟨by dsimp only;omega,by dsimp only;omega,Nat.le_refl _,Nat.le_refl _,fun k hk=>by
   dsimp only at hk
   rw [show m-(m-a)=a from by omega,show m+(b-m)=b from by omega] at hk;exact hk⟩ ?_
 rintro ⟨i,j,w⟩ ⟨hi0,hj0,hi,hj,hr⟩
 dsimp only at hi0 hj0 hi hj hr⊢
 by_cases hij:i=j
 ·subst hij
  have e1:(((i:Nat):Int) !=(i:Int))=false:=by simp
  have sw:=swapr_fh g fc caps N (m-i) m i om om hN w
  rw [show((m-i:Nat):Int)=(m:Int)-(i:Int) from by omega] at sw
  refine yGNG e1 ?_
  refine aw_callh (hc:=[(g,.cells 3 N (gF w))]) (hr:=[]) sw rfl rfl rfl (.refl _) (zL e1) ?_
  rintro _ _ ⟨y,hx,rfl,rfl⟩ _
  refine ySG e1 ?_
  refine yV e1 ?_
  exact⟨y,hr y (rot_even om hx),rfl,rfl⟩
 ·have e1:(((i:Nat):Int) !=(j:Int))=true:=by simp;omega
  refine yGPG e1 ?_
  refine yF e1 (fun h2=>?_) fun h2=>?_
  ·have hgt:j<i:=dT h2
   have sw:=swapr_fh g fc caps N (m-i) m j om om hN w
   rw [show((m-i:Nat):Int)=(m:Int)-(i:Int) from by omega] at sw
   refine yG e1 ?_
   refine aw_callh (hc:=[(g,.cells 3 N (gF w))]) (hr:=[]) sw rfl rfl rfl (.refl _) (zL e1) ?_
   rintro _ _ ⟨y,hx,rfl,rfl⟩ _
   refine ySG e1 ?_
   exact aw_stop ⟨(i-j,j,y),by dsimp only;omega,(zB e1),zZ,by dsimp only;omega,by dsimp only;omega,by dsimp only;omega,by dsimp only;omega,fun k hk=>hr k (rot_more om hgt hx hk)⟩
  ·have hgt:i<j:=dF h2
   have sw:=swapr_fh g fc caps N (m-i) (m+j-i) i om om hN w
   rw [show((m-i:Nat):Int)=(m:Int)-(i:Int) from by omega,show((m+j-i:Nat):Int)=(m:Int)+(j:Int)-(i:Int) from by omega] at sw
   refine yG e1 ?_
   refine aw_callh (hc:=[(g,.cells 3 N (gF w))]) (hr:=[]) sw rfl rfl rfl (.refl _) (zL e1) ?_
   rintro _ _ ⟨y,hx,rfl,rfl⟩ _
   refine ySG e1 ?_
   exact aw_stop ⟨(i,j-i,y),by dsimp only;omega,(zB e1),zZ,by dsimp only;omega,by dsimp only;omega,by dsimp only;omega,by dsimp only;omega,fun k hk=>hr k (rot_less om hgt hx hk)⟩
end Go.Proofs.YtfcnbgmclfkfcaaGreat
namespace Go.PN
def CrossR (z:Nat→Int) (a m b:Nat):Prop:=∀i j,a≤i→i<m→m≤j→j<b→z i<z j
def InR (z:Nat→Int) (a b N:Nat):Prop:=∀i,a≤i→i<b→0≤z i∧z i<N
theorem InR.sub {z:Nat→Int} {a b c d N:Nat} (q:InR z a b N) (h1:a≤c) (h2:d≤b):InR z c d N:=fun i i1 i2=>q i om om
theorem InR.shuf {g h:Nat→Int} {a b c d N:Nat} (q:InR g c d N) (p:ShufR g h a b) (h1:c≤a) (h2:b≤d):InR h c d N:=fun i i1 i2=>by
 by_cases hi:a≤i∧i<b
 ·obtain⟨j,j1,j2,j3⟩:=(p.mem (h i)).1 ⟨i,hi.1,hi.2,rfl⟩
  rw [←j3]
  exact q j om om
 ·rw [p.out i om]
  exact q i i1 i2
theorem CrossR.rot1 {g h:Nat→Int} {a s m e b:Nat} (q:CrossR g a m b) (r:RotR g h s m e) (h2:s≤m) (h4:e≤b):CrossR h a s (s+(e-m)):=fun i j i1 i2 j1 j2=>by
 rw [r.out i (.inl i2),r.lo j j1 j2]
 exact q _ _ i1 om om om
theorem CrossR.rot2 {g h:Nat→Int} {a s m e b:Nat} (q:CrossR g a m b) (r:RotR g h s m e) (h1:a≤s) (h2:s≤m) (h3:m≤e):CrossR h (s+(e-m)) e b:=fun i j i1 i2 j1 j2=>by
 rw [r.out j (.inr j1),r.hi i i1 i2]
 exact q _ _ om om om j2
theorem CrossR.same {g h:Nat→Int} {a m b:Nat} (q:CrossR g a m b) (e:∀i,a≤i→i<b→h i=g i):CrossR h a m b:=fun i j i1 i2 j1 j2=>by
 rw [e i i1 om,e j om j2];exact q i j i1 i2 j1 j2
theorem cross_id {g:Nat→Int} {a m b:Nat} (p:IdR g a m) (q:IdR g m b):CrossR g a m b:=fun i j i1 i2 j1 j2=>by
 have h1:=(p (g i)).1 ⟨i,i1,i2,rfl⟩
 have h2:=(q (g j)).1 ⟨j,j1,j2,rfl⟩
 omega
theorem IdR.inR {g:Nat→Int} {a b N:Nat} (p:IdR g a b) (h:b≤N):InR g a b N:=fun i i1 i2=>by
 have h1:=(p (g i)).1 ⟨i,i1,i2,rfl⟩
 omega
theorem asc_below {lt:Int→Int→Bool} (ok:LtOk lt) {g:Nat→Int} {i b:Nat} {x:Int} (q:AscR lt g i b) (h:i<b→lt x (g i)=true):∀p,i≤p→p<b→lt x (g p)=true:=fun p p1 p2=>by
 rcases Nat.lt_or_ge i p with hp|hp
 ·exact ok.trans _ _ _ (h om) (q i p (Nat.le_refl _) hp p2)
 ·rw [show p=i from by omega];exact h om
theorem asc_above {lt:Int→Int→Bool} (ok:LtOk lt) {g:Nat→Int} {a i:Nat} {x:Int} (q:AscR lt g a i) (h:a<i→lt (g (i-1)) x=true):∀p,a≤p→p<i→lt (g p) x=true:=fun p p1 p2=>by
 rcases Nat.lt_or_ge p (i-1) with hp|hp
 ·exact ok.trans _ _ _ (q p (i-1) p1 hp om) (h om)
 ·rw [show p=i-1 from by omega];exact h om
end Go.PN
