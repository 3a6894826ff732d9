/- Parts of one proof, laid by a program. -/
import Derived.Test.YteocnikcjjonbaaGreatM00
import Derived.Test.YteocnikcjjonbaaGreatM15
import Derived.Test.YteocnikcjjonbaaGreatM16
import Derived.ShutString
set_option linter.unusedSimpArgs false
set_option linter.unusedVariables false
set_option maxRecDepth 100000
set_option maxHeartbeats 12800000
namespace Go.Proofs.YteocnikcjjonbaaGreat
open Go.AI Go.PN Go.ChangeShapes Go.WideShapes Go.RowKit
theorem rdr_nat8 {P:Program} {t:TypeId} (ht:P.underlying t=some (.int .u8)):Rdr P t (fun n:Nat=>[.int .u8 n]) (fun n _=>n≤255):=fun H enc w fuel cs x h=>by
 obtain⟨n,rfl,rfl,hw⟩:=DataW.trod_int ht h
 have hb:0≤n∧n≤255:=by simpa [Lit.wf,IntKind.min,IntKind.max,IntKind.signed,IntKind.bits] using hw
 refine⟨n.toNat,⟨?_,trivial⟩,by omega⟩
 show Value.int .u8 n=Value.int .u8 ((n.toNat:Nat):Int)
 rw [show((n.toNat:Nat):Int)=n from by omega]
theorem rdr_nat16 {P:Program} {t:TypeId} (ht:P.underlying t=some (.int .u16)):Rdr P t (fun n:Nat=>[.int .u16 n]) (fun n _=>n≤65535):=fun H enc w fuel cs x h=>by
 obtain⟨n,rfl,rfl,hw⟩:=DataW.trod_int ht h
 have hb:0≤n∧n≤65535:=by simpa [Lit.wf,IntKind.min,IntKind.max,IntKind.signed,IntKind.bits] using hw
 refine⟨n.toNat,⟨?_,trivial⟩,by omega⟩
 show Value.int .u16 n=Value.int .u16 ((n.toNat:Nat):Int)
 rw [show((n.toNat:Nat):Int)=n from by omega]
end Go.Proofs.YteocnikcjjonbaaGreat
namespace Go.Proofs.YteocnikcjjonbaaGreat
open Go.AI Go.PN
attribute [local irreducible] aw Fa Fh DrK
theorem is_fa (c d:Int) (hd:d≠0):Fa Tryz.prog 17 [.c (errA c),.c (.int .i64 d)] (.c (.bool (decide (c=d)))):=by
 by_cases h:c=0
 ·have e:errA c=.nilI:=by unfold errA errC;rw [if_pos h]
  rw [e,decide_eq_false om]
  refine fa_of_body Tryz.func17 rfl rfl (by simp [Tryz.ntmps17]) fun C hC=> ?_
  simp only [initS,Nat.reduceAdd]
  refine xGT hC ?_
  exact .one (.c (.bool _))
 ·have e:errA c=.ifc 51 (.int .i64 c):=by unfold errA errC;rw [if_neg h]
  rw [e]
  refine fa_of_body Tryz.func17 rfl rfl (by simp [Tryz.ntmps17]) fun C hC=> ?_
  simp only [initS,Nat.reduceAdd]
  refine xGT hC ?_
  exact .one (.c (ler_bool (by by_cases e:c=d<;>simp [e])))
end Go.Proofs.YteocnikcjjonbaaGreat
namespace Go.PN
open Go.AI
def joinS:List TK→BS
 |[]=>[]
 |[t]=>t.text
 |t::u::l=>t.text++32::joinS (u::l)
theorem joinS_lx:∀{l:List TK},LexAll l→Lx (joinS l) l
 |[],_=>.nil
 |[t],h=>by
  have:=Lx.tok t [] [] (h t List.mem_cons_self) (.inl rfl) .nil
  rwa [List.append_nil] at this
 |t::u::l,h=>.tok t _ _ (h t List.mem_cons_self) (.inr ⟨rfl,fun h=>absurd (show(32:Nat)=47 from h) (by decide)⟩) (.blank 32 _ _ rfl (joinS_lx fun x hx=>h x (List.mem_cons_of_mem _ hx)))
theorem joinS_len:∀l:List TK,(joinS l).length≤txLen l+l.length
 |[]=>Nat.le_refl _
 |[t]=>by show t.text.length≤t.text.length+0+1;omega
 |t::u::l=>by
  have:=joinS_len (u::l)
  show(t.text++32::joinS (u::l)).length≤(t.text.length+txLen (u::l))+((u::l).length+1)
  rw [List.length_append,List.length_cons]
  omega
theorem joinS_snoc (t:TK):∀{l:List TK},l≠[]→joinS (l++[t])=joinS l++32::t.text
 |[x],_=>rfl
 |x::y::l,_=>by
  have:=joinS_snoc t (l:=y::l) (by simp)
  show x.text++32::joinS (y::l++[t])=(x.text++32::joinS (y::l))++32::t.text
  rw [this];simp
end Go.PN
namespace Go.PN
open Go.AI
variable {α β : Type}
theorem Nl.bnd1 {b:Bool} {f:PS→α×PS} {k:α→PS→β×PS} (hf:Nl true f) (rk:∀v,Rdr (k v)):Nl b (PN.bnd f k):=by
 rcases hf with h|⟨h,_⟩
 ·left
  show(k (f ⟨[],0⟩).1 (f ⟨[],0⟩).2).2.e=20
  rw [(rk _).stk _ om]
  exact h
 ·cases h
theorem ext_pure {b:Bool} (a:α):Ext b fun s=>(a,s):=fun _ _=>.inr (.inr ⟨rfl,fun _=>rfl⟩)
theorem nl_pure (a:α):Nl false fun s=>(a,s):=.inr ⟨rfl,rfl⟩
theorem ho_is (w:BS):HO fun s=>isS s w:=fun _ _ _=>rfl
theorem ho_kind (k:Nat):HO fun s=>kindS s k:=fun _ _ _=>rfl
theorem ext_take {b:Bool} {m:PS→Bool} (h:HO m):Ext b fun s=>takeS (m s) s:=by
 intro l x
 cases l with
 |nil=>left;rfl
 |cons t l=>
  right;right
  dsimp only
  rw [take_cons (s:=⟨t::l,0⟩) rfl rfl,List.cons_append,take_cons (s:=⟨t::(l++x),0⟩) rfl rfl,h t l x]
  cases m ⟨t::(l++x),0⟩
  ·exact⟨rfl,fun e=>by cases e⟩
  ·exact⟨rfl,fun _=>rfl⟩
theorem nl_take {b:Bool} {m:PS→Bool}:Nl b fun s=>takeS (m s) s:=.inl rfl
theorem ext_word {b:Bool}:Ext b wordS:=ext_take (ho_kind 0)
theorem nl_word {b:Bool}:Nl b wordS:=nl_take
theorem ext_exp {b:Bool} (w:BS):Ext b fun s=>((),expS w s):=by
 intro l x
 rcases ext_take (b:=b) (ho_is w) l x with h|h|h
 ·exact .inl h
 ·exact .inr (.inl h)
 ·exact .inr (.inr ⟨h.1,fun _=>rfl⟩)
theorem nl_exp {b:Bool} (w:BS):Nl b fun s=>((),expS w s):=.inl rfl
theorem ext_of {b:Bool} {f:PS→α×PS} (g:PS→β×PS) (h:Ext true g) (k:∀s q:PS,s.e=0→q.e=0→(g s).2.e=20→(f s).2.e=20) (k2:∀l x,(g ⟨l++x,0⟩).2=⟨(g ⟨l,0⟩).2.l++x,(g ⟨l,0⟩).2.e⟩→((g ⟨l,0⟩).2.e=0→(g ⟨l++x,0⟩).1=(g ⟨l,0⟩).1)→(f ⟨l++x,0⟩).2=⟨(f ⟨l,0⟩).2.l++x,(f ⟨l,0⟩).2.e⟩∧((f ⟨l,0⟩).2.e=0→(f ⟨l++x,0⟩).1=(f ⟨l,0⟩).1)):Ext b f:=by
 intro l x
 rcases h l x with h|h|h
 ·exact .inl (k _ ⟨l,0⟩ rfl rfl h)
 ·cases h.1
 ·exact .inr (.inr (k2 l x h.1 h.2))
theorem ext_num {b:Bool}:Ext b numS:=by
 refine ext_of (fun s=>takeS (kindS s 1) s) (ext_take (ho_kind 1)) (fun s _ _ _ h=> ?_) fun l x h1 h2=> ?_
 ·unfold numS
  dsimp only at h⊢
  rw [if_neg om]
  exact h
 ·unfold numS
  dsimp only at h1 h2⊢
  generalize takeS (kindS ⟨l,0⟩ 1) ⟨l,0⟩=r at*
  generalize takeS (kindS ⟨l++x,0⟩ 1) ⟨l++x,0⟩=q at*
  obtain⟨rv,rl,re⟩:=r
  obtain⟨qv,q2⟩:=q
  dsimp only at*
  subst h1
  dsimp only
  by_cases e0:re=0
  ·have:=h2 e0
   subst this
   rw [if_pos e0,if_pos e0]
   dsimp only
   split<;>exact⟨rfl,fun _=>rfl⟩
  ·rw [if_neg e0,if_neg e0]
   exact⟨rfl,fun e=>absurd e e0⟩
theorem nl_num {b:Bool}:Nl b numS:=.inl rfl
theorem ext_whole {b:Bool}:Ext b wholeS:=by
 refine ext_of numS ext_num (fun s _ _ _ h=> ?_) fun l x h1 h2=> ?_
 ·unfold wholeS
  dsimp only at h⊢
  rw [if_neg om]
  exact h
 ·unfold wholeS
  dsimp only at h1 h2⊢
  generalize numS ⟨l,0⟩=r at*
  generalize numS ⟨l++x,0⟩=q at*
  obtain⟨rv,rl,re⟩:=r
  obtain⟨qv,q2⟩:=q
  dsimp only at*
  subst h1
  dsimp only
  by_cases e0:re=0
  ·have:=h2 e0
   subst this
   rw [if_pos e0,if_pos e0]
   split
   ·split<;>exact⟨rfl,fun _=>rfl⟩
   ·exact⟨rfl,fun _=>rfl⟩
  ·rw [if_neg e0,if_neg e0]
   exact⟨rfl,fun e=>absurd e e0⟩
theorem ext_ite {b:Bool} {c:PS→Bool} {f g:PS→α×PS} (hc:HO c) (hf:Ext b f) (hg:Ext b g) (nf:Nl b f) (ng:Nl b g) (rf:Rdr f) (rg:Rdr g):Ext b fun s=>if c s=true then f s else g s:=by
 intro l x
 cases l with
 |nil=>
  dsimp only
  by_cases h:c ⟨[],0⟩=true
  ·rw [if_pos h]
   rcases nf with n|⟨n,n'⟩
   ·exact .inl n
   ·exact .inr (.inl ⟨n,n',nil_l rf⟩)
  ·rw [if_neg h]
   rcases ng with n|⟨n,n'⟩
   ·exact .inl n
   ·exact .inr (.inl ⟨n,n',nil_l rg⟩)
 |cons t l=>
  have:=hc t l x
  dsimp only
  by_cases h:c ⟨t::l,0⟩=true
  ·rw [if_pos h,if_pos (show c ⟨t::l++x,0⟩=true by rw [List.cons_append,←this];exact h)]
   exact hf (t::l) x
  ·rw [if_neg h,if_neg (show¬c ⟨t::l++x,0⟩=true by rw [List.cons_append,←this];exact h)]
   exact hg (t::l) x
theorem ext_input {b:Bool}:Ext b inputS:=by
 refine ext_ite (c:=fun s=>isS s kAt) (f:=bnd (fun s=>((),expS kAt s)) fun _=>bnd wordS fun t=>fun s=>(64::t,s)) (ho_is kAt) ?_ ext_word ?_ nl_word ?_ rdr_word
 ·exact Ext.bnd (a:=true) (ext_exp kAt) (fun _=>Ext.bnd (a:=true) ext_word (fun t=>ext_pure _) (.inl rfl) (fun t=>rdr_pure _)) (.inl rfl) (fun _=>Rdr.bnd rdr_word fun t=>rdr_pure _)
 ·exact Nl.bnd1 (nl_exp kAt) (fun _=>Rdr.bnd rdr_word fun t=>rdr_pure _)
 ·exact Rdr.bnd (rdr_exp kAt) fun _=>Rdr.bnd rdr_word fun t=>rdr_pure _
theorem lp_nil {c:PS→Bool} {b:α→PS→α×PS} (nb:∀a,Nl false (b a)) (rb:∀a,Rdr (b a)) (cb:∀a,Con (b a)) (a:α):(lpS c b a ⟨[],0⟩).2.e=20∨((lpS c b a ⟨[],0⟩).2.e=0∧(lpS c b a ⟨[],0⟩).2.l=[]):=by
 by_cases h:c ⟨[],0⟩=true
 ·rw [lpS_step (fun a s e _=>cb a s e) rfl h]
  have hc:=cb a ⟨[],0⟩ rfl
  rcases nb a with n|⟨_,n⟩
  ·left
   rw [lpS_end (fun z=>by omega)]
   exact n
  ·exfalso
   unfold mS at hc
   rw [if_pos n,if_pos rfl] at hc
   simp at hc
 ·rw [lpS_end (fun z=>h z.2)]
  exact .inr ⟨rfl,rfl⟩
theorem ext_lp {c:PS→Bool} {b:α→PS→α×PS} (hc:HO c) (hb:∀a,Ext false (b a)) (nb:∀a,Nl false (b a)) (rb:∀a,Rdr (b a)) (cb:∀a,Con (b a)) (a:α):Ext false (lpS c b a):=by
 have key:∀(n:Nat) (a:α) (l x:List TK),l.length≤n→(lpS c b a ⟨l,0⟩).2.e=20∨(false=false∧(lpS c b a ⟨l,0⟩).2.e=0∧(lpS c b a ⟨l,0⟩).2.l=[])∨((lpS c b a ⟨l++x,0⟩).2=⟨(lpS c b a ⟨l,0⟩).2.l++x,(lpS c b a ⟨l,0⟩).2.e⟩∧((lpS c b a ⟨l,0⟩).2.e=0→(lpS c b a ⟨l++x,0⟩).1=(lpS c b a ⟨l,0⟩).1)):=by
  intro n
  induction n with
  |zero=>
   intro a l x hl
   have:l=[]:=List.length_eq_zero_iff.1 om
   subst this
   rcases lp_nil nb rb cb (c:=c) a with h|h
   ·exact .inl h
   ·exact .inr (.inl ⟨rfl,h⟩)
  |succ n ih=>
   intro a l x hl
   cases l with
   |nil=>
    rcases lp_nil nb rb cb (c:=c) a with h|h
    ·exact .inl h
    ·exact .inr (.inl ⟨rfl,h⟩)
   |cons t l=>
    have hct:=hc t l x
    by_cases h:c ⟨t::l,0⟩=true
    ·have h':c ⟨t::l++x,0⟩=true:=by rw [List.cons_append,←hct];exact h
     rw [lpS_step (fun a s e _=>cb a s e) (s:=⟨t::l,0⟩) rfl h,lpS_step (fun a s e _=>cb a s e) (s:=⟨t::l++x,0⟩) rfl h']
     have hx:=hb a (t::l) x
     have hm:=cb a ⟨t::l,0⟩ rfl
     generalize b a ⟨t::l,0⟩=r at*
     generalize b a ⟨t::l++x,0⟩=q at*
     obtain⟨rv,rl,re⟩:=r
     dsimp only at*
     rcases hx with hx|⟨_,h1,h2⟩|⟨h1,h2⟩
     ·left
      rw [lpS_end (s:=⟨rl,re⟩) (fun z=>by have h0:re=0:=z.1;omega)]
      exact hx
     ·subst h1 h2
      rcases lp_nil nb rb cb (c:=c) rv with h|h
      ·exact .inl h
      ·exact .inr (.inl ⟨rfl,h⟩)
     ·by_cases e0:re=0
      ·subst e0
       rw [h1,h2 rfl]
       refine ih rv rl x ?_
       have hm2:rl.length+1<(t::l).length+1:=hm
       simp only [List.length_cons] at hm2 hl
       omega
      ·right;right
       rw [lpS_end (s:=⟨rl,re⟩) (fun z=>e0 z.1),lpS_end (s:=q.2) (fun z=>by rw [h1] at z;exact e0 z.1),h1]
       exact⟨rfl,fun e=>absurd e e0⟩
    ·have h':¬c ⟨t::l++x,0⟩=true:=by rw [List.cons_append,←hct];exact h
     rw [lpS_end (fun z=>h z.2),lpS_end (fun z=>h' z.2)]
     exact .inr (.inr ⟨rfl,fun _=>rfl⟩)
 exact fun l x=>key l.length a l x (Nat.le_refl _)
end Go.PN
namespace Go.PN
open Go.AI
variable {α β : Type}
theorem ext_inB (x:List BS) {b:Bool}:Ext b (inB x):=Ext.bnd (a:=true) (f:=inputS) (k:=fun t s=>(x++[t],s)) ext_input (fun t=>ext_pure _) (.inl rfl) (fun t=>rdr_pure _)
theorem nl_inB (x:List BS) {b:Bool}:Nl b (inB x):=.inl rfl
theorem ext_lpx {c:PS→Bool} {b:α→PS→α×PS} (hc:HO c) (hb:∀a,Ext false (b a)) (nb:∀a,Nl false (b a)) (rb:∀a,Rdr (b a)) (cb:∀a,Con (b a)) (a:α) (w:BS) (k:α→β):Ext true (PN.bnd (lpS c b a) fun q=>PN.bnd (fun s=>((),expS w s)) fun _ s=>(k q,s)):=
 Ext.bnd (ext_lp hc hb nb rb cb a) (fun _=>Ext.bnd (a:=true) (ext_exp w) (fun _=>ext_pure _) (.inl rfl) (fun _=>rdr_pure _)) (.inr fun _=>Nl.bnd1 (nl_exp w) (fun _=>rdr_pure _)) (fun _=>Rdr.bnd (rdr_exp w) fun _=>rdr_pure _)
theorem ext_ins:Ext true insS:=ext_lpx (ho_is kSemi).not (fun x=>ext_inB x) (fun x=>nl_inB x) rdr_inB con_inB [] kSemi fun q=>q
theorem ext_gk {b:Bool}:Ext b gkS:=by
 intro l x
 cases l with
 |nil=>left;rfl
 |cons t l=>
  have hk:kdS ⟨t::l,0⟩=kdS ⟨t::l++x,0⟩:=rfl
  have h:=ext_take (b:=b) (m:=fun s=>(kdS s).isSome) (fun _ _ _=>rfl) (t::l) x
  rcases h with h|h|h
  ·exact .inl h
  ·exact .inr (.inl h)
  ·exact .inr (.inr ⟨h.1,fun _=>hk.symm⟩)
theorem ext_ifc {b:Bool} {p:Prop} [Decidable p] {f g:PS→α×PS} (hf:Ext b f) (hg:Ext b g):Ext b fun s=>if p then f s else g s:=by
 by_cases h:p
 ·simp only [if_pos h];exact hf
 ·simp only [if_neg h];exact hg
theorem ext_gtK (nm:BS) (k:Option Int):Ext true (gtK nm k):=by
 have n1:∀{γ:Type} (v:γ),∀(K:List BS→γ),True:=fun _ _=>trivial
 have e3:∀v d,Ext true (PN.bnd insS fun q s=>((⟨nm,k.getD 0,v,q,d⟩:GtD),s)):=fun v d=>Ext.bnd (a:=true) ext_ins (fun q=>ext_pure _) (.inl rfl) (fun q=>rdr_pure _)
 have nn:∀v d,Nl true (PN.bnd insS fun q s=>((⟨nm,k.getD 0,v,q,d⟩:GtD),s)):=fun v d=>Nl.bnd1 (.inl rfl) (fun q=>rdr_pure _)
 have r3:∀v d,Rdr (PN.bnd insS fun q s=>((⟨nm,k.getD 0,v,q,d⟩:GtD),s)):=fun v d=>Rdr.bnd rdr_ins fun q=>rdr_pure _
 have e2:∀v,Ext true (PN.bnd (fun s=>if k=some 7 then numS s else(rd0,s)) fun d=>PN.bnd insS fun q s=>((⟨nm,k.getD 0,v,q,d⟩:GtD),s)):=fun v=>Ext.bnd (a:=false) (ext_ifc ext_num (ext_pure _)) (e3 v) (.inr (nn v)) (r3 v)
 have n2:∀v,Nl true (PN.bnd (fun s=>if k=some 7 then numS s else(rd0,s)) fun d=>PN.bnd insS fun q s=>((⟨nm,k.getD 0,v,q,d⟩:GtD),s)):=fun v=>Nl.bnd (a:=false) (by
  by_cases h:k=some 7
  ·simp only [if_pos h];exact nl_num
  ·simp only [if_neg h];exact nl_pure _) (rdr_ite rdr_num (rdr_pure rd0)) (nn v) (r3 v)
 exact Ext.bnd (a:=false) (ext_ifc ext_whole (ext_pure _)) e2 (.inr n2) fun v=>Rdr.bnd (rdr_ite rdr_num (rdr_pure rd0)) (r3 v)
theorem ext_gate {b:Bool}:Ext b gateS:=by
 have:Ext true gateS:=by
  rw [gateS_eq]
  exact Ext.bnd (a:=true) ext_word (fun nm=>Ext.bnd (a:=true) ext_gk (fun k=>ext_gtK nm k) (.inl rfl) (fun k=>rdr_gtK nm k)) (.inl rfl) (fun nm=>Rdr.bnd rdr_gk fun k=>rdr_gtK nm k)
 intro l x
 rcases this l x with h|h|h
 ·exact .inl h
 ·cases h.1
 ·exact .inr (.inr h)
theorem ext_pgB (x:List GtD):Ext false (pgB x):=Ext.bnd (a:=true) (f:=fun s=>((),expS kGate s)) (k:=fun _=>PN.bnd gateS fun g s=>(x++[g],s)) (ext_exp kGate) (fun _=>Ext.bnd (a:=true) ext_gate (fun _=>ext_pure _) (.inl rfl) fun _=>rdr_pure _) (.inl rfl) (fun _=>Rdr.bnd rdr_gate fun g=>rdr_pure (x++[g]))
theorem nl_pgB (x:List GtD):Nl false (pgB x):=.inl rfl
theorem ext_topK {k:BS→PS→α×PS} (h:∀t,Ext true (k t)) (r:∀t,Rdr (k t)):Ext true (topK k):=
 Ext.bnd (a:=true) (ext_exp kTop) (fun _=>Ext.bnd (a:=true) ext_input (fun t=>Ext.bnd (a:=true) (ext_exp kOpen) (fun _=>h t) (.inl rfl) (fun _=>r t)) (.inl rfl) (fun t=>Rdr.bnd (rdr_exp _) fun _=>r t)) (.inl rfl) (fun _=>Rdr.bnd rdr_input fun t=>Rdr.bnd (rdr_exp _) fun _=>r t)
theorem ext_page:Ext true pageS:=by
 rw [pageS_eq]
 exact Ext.bnd (a:=true) ext_word (fun nm=>ext_topK (fun t=>ext_lpx (ho_is kClose).not ext_pgB nl_pgB rdr_pgB con_pgB [] kClose fun q=>(⟨nm,t,q⟩:PgD)) fun t=>Rdr.bnd (rdr_lp rdr_pgB _) (rdr_pgK nm t)) (.inl rfl) (fun nm=>rdr_topK fun t=>Rdr.bnd (rdr_lp rdr_pgB _) (rdr_pgK nm t))
theorem ext_vlB (x:List VlD):Ext false (vlB x):=by
 rw [vlB_eq]
 exact Ext.bnd (a:=true) ext_word (fun w=>Ext.bnd (a:=true) ext_num (fun q=>Ext.bnd (a:=true) (ext_exp kSemi) (fun _=>ext_pure _) (.inl rfl) fun _=>rdr_pure _) (.inl rfl) fun q=>Rdr.bnd (rdr_exp kSemi) fun _=>rdr_pure _) (.inl rfl) (fun w=>Rdr.bnd rdr_num fun q=>Rdr.bnd (rdr_exp kSemi) fun _=>rdr_pure _)
theorem nl_vlB (x:List VlD):Nl false (vlB x):=.inl rfl
theorem ext_phase:Ext true phaseS:=by
 rw [phaseS_eq]
 exact Ext.bnd (a:=true) ext_word (fun nm=>ext_topK (fun t=>ext_lpx (ho_is kClose).not ext_vlB nl_vlB rdr_vlB con_vlB [] kClose fun q=>(⟨nm,t,q⟩:PhD)) fun t=>Rdr.bnd (rdr_lp rdr_vlB _) (rdr_phK nm t)) (.inl rfl) (fun nm=>rdr_topK fun t=>Rdr.bnd (rdr_lp rdr_vlB _) (rdr_phK nm t))
theorem ext_map {b:Bool} {m:PS→Bool} (hm:HO m) (g:BS→β):Ext b fun s=>(g (takeS (m s) s).1,(takeS (m s) s).2):=fun l x=>by
 rcases ext_take (b:=b) hm l x with h|h|h
 ·exact .inl h
 ·exact .inr (.inl h)
 ·exact .inr (.inr ⟨h.1,fun e=>congrArg g (h.2 e)⟩)
theorem ext_house:Ext true houseS:=by
 rw [houseS_eq]
 exact Ext.bnd (a:=true) ext_word (fun nm=>Ext.bnd (a:=true) (f:=hsT) (ext_map ((ho_is kOn).or (ho_is kOff)) fun w=>w==kOn) (fun b=>Ext.bnd (a:=true) (ext_exp kSemi) (fun _=>ext_pure _) (.inl rfl) fun _=>rdr_pure _) (.inl rfl) fun b=>Rdr.bnd (rdr_exp _) fun _=>rdr_pure _) (.inl rfl) (fun nm=>Rdr.bnd rdr_hsT fun b=>Rdr.bnd (rdr_exp _) fun _=>rdr_pure _)
theorem ext_facB (x:List RD):Ext false (facB x):=Ext.bnd (a:=true) (f:=numS) (k:=fun q s=>(x++[q],s)) ext_num (fun _=>ext_pure _) (.inl rfl) fun _=>rdr_pure _
theorem ext_memB (x:List BS):Ext false (memB x):=Ext.bnd (a:=true) (f:=wordS) (k:=fun q s=>(x++[q],s)) ext_word (fun _=>ext_pure _) (.inl rfl) fun _=>rdr_pure _
theorem nl_facB (x:List RD):Nl false (facB x):=.inl rfl
theorem nl_memB (x:List BS):Nl false (memB x):=.inl rfl
theorem ext_grM (nm:BS) (g:Int) (f:List RD):Ext true (grM nm g f):=ext_lpx (ho_kind 0) ext_memB nl_memB rdr_memB con_memB [] kSemi fun m=>(⟨nm,g,m,f⟩:GrD)
theorem ext_grF (nm:BS) (g:Int):Ext true (grF nm g):=
 Ext.bnd (ext_lp (ho_kind 1) ext_facB nl_facB rdr_facB con_facB []) (fun f=>Ext.bnd (a:=true) (ext_exp kColon) (fun _=>ext_grM nm g f) (.inl rfl) fun _=>rdr_grM nm g f) (.inr fun f=>Nl.bnd1 (nl_exp kColon) fun _=>rdr_grM nm g f) fun f=>Rdr.bnd (rdr_exp _) fun _=>rdr_grM nm g f
theorem ext_group:Ext true groupS:=by
 rw [groupS_eq]
 exact Ext.bnd (a:=true) ext_word (fun nm=>Ext.bnd (a:=true) (f:=grT) (ext_map ((ho_is kBeta).or (ho_is kGreek)) fun w=>if w==kGreek then(1:Int) else 0) (fun g=>ext_grF nm g) (.inl rfl) fun g=>rdr_grF nm g) (.inl rfl) (fun nm=>Rdr.bnd rdr_grT fun g=>rdr_grF nm g)
def evMay (s:PS):Bool:=isS s kP||isS s kFail||isS s kRepair||isS s kCost
def evTk (seen:List BS) (s:PS):Option BS×PS:=if(evMay s&&seen.contains (hdT s))=true then(none,failS 6 s) else(some (takeS (evMay s) s).1,(takeS (evMay s) s).2)
def evG2 (x:List BS×EvD) (w:BS):PS→(List BS×EvD)×PS:=
 if w==kP then PN.bnd numS fun v s=>((w::x.1,{x.2 with p:=v}),s) else if w==kFail then PN.bnd numS fun v s=>((w::x.1,{x.2 with fail:=v}),s)
  else if w==kRepair then PN.bnd numS fun v s=>((w::x.1,{x.2 with rep:=v}),s) else if w==kCost then PN.bnd wholeS fun v s=>((w::x.1,{x.2 with cost:=v}),s) else fun s=>((w::x.1,x.2),s)
def evGo (x:List BS×EvD):Option BS→PS→(List BS×EvD)×PS
 |none=>fun s=>(x,s)
 |some w=>evG2 x w
theorem evB_bnd (x:List BS×EvD) (s:PS):evB x s=PN.bnd (evTk x.1) (evGo x) s:=by
 show evB x s=evGo x (evTk x.1 s).1 (evTk x.1 s).2
 unfold evB evTk evMay
 dsimp only
 split
 ·rfl
 ·dsimp only [evGo]
  unfold evG2
  generalize takeS _ s=r
  repeat' split
  all_goals rfl
theorem rdr_evGo (x:List BS×EvD):∀w,Rdr (evGo x w)
 |none=>rdr_pure _
 |some w=>by
  show Rdr (evG2 x w)
  unfold evG2
  repeat' split
  ·exact Rdr.bnd rdr_num fun _=>rdr_pure _
  ·exact Rdr.bnd rdr_num fun _=>rdr_pure _
  ·exact Rdr.bnd rdr_num fun _=>rdr_pure _
  ·exact Rdr.bnd rdr_whole fun _=>rdr_pure _
  ·exact rdr_pure _
theorem ext_evGo (x:List BS×EvD):∀w,Ext false (evGo x w)
 |none=>ext_pure _
 |some w=>by
  show Ext false (evG2 x w)
  unfold evG2
  repeat' split
  ·exact Ext.bnd (a:=true) ext_num (fun _=>ext_pure _) (.inl rfl) fun _=>rdr_pure _
  ·exact Ext.bnd (a:=true) ext_num (fun _=>ext_pure _) (.inl rfl) fun _=>rdr_pure _
  ·exact Ext.bnd (a:=true) ext_num (fun _=>ext_pure _) (.inl rfl) fun _=>rdr_pure _
  ·exact Ext.bnd (a:=true) ext_whole (fun _=>ext_pure _) (.inl rfl) fun _=>rdr_pure _
  ·exact ext_pure _
theorem ext_evTk (seen:List BS):Ext true (evTk seen):=by
 intro l x
 cases l with
 |nil=>left;rfl
 |cons t l=>
  right;right
  have e1:evMay ⟨t::l,0⟩=evMay ⟨t::l++x,0⟩:=rfl
  have e2:hdT ⟨t::l,0⟩=hdT ⟨t::l++x,0⟩:=rfl
  unfold evTk
  rw [e1,e2]
  by_cases h:(evMay ⟨t::l++x,0⟩&&seen.contains (hdT ⟨t::l++x,0⟩))=true
  ·rw [if_pos h,if_pos h]
   exact⟨rfl,fun e=>by cases e⟩
  ·rw [if_neg h,if_neg h]
   rw [take_cons (s:=⟨t::l,0⟩) rfl rfl,take_cons (s:=⟨t::l++x,0⟩) rfl rfl]
   cases evMay ⟨t::l++x,0⟩
   ·exact⟨rfl,fun e=>by cases e⟩
   ·exact⟨rfl,fun _=>rfl⟩
theorem ext_evB (x:List BS×EvD):Ext false (evB x):=by
 rw [show evB x=PN.bnd (evTk x.1) (evGo x) from funext (evB_bnd x)]
 exact Ext.bnd (a:=true) (ext_evTk x.1) (ext_evGo x) (.inl rfl) (rdr_evGo x)
theorem nl_evB (x:List BS×EvD):Nl false (evB x):=.inl rfl
theorem ext_event:Ext true eventS:=by
 rw [eventS_eq]
 exact Ext.bnd (a:=true) ext_word (fun nm=>ext_lpx (ho_is kSemi).not ext_evB nl_evB rdr_evB con_evB _ kSemi fun q=>q.2) (.inl rfl) (fun nm=>Rdr.bnd (rdr_lp rdr_evB _) rdr_evK)
theorem ext_stW (m:MdD) (w:BS):Ext false (stW m w):=by
 unfold stW
 repeat' split
 ·exact Ext.bnd (a:=true) ext_event (fun _=>ext_pure _) (.inl rfl) fun _=>rdr_pure _
 ·exact Ext.bnd (a:=true) ext_house (fun _=>ext_pure _) (.inl rfl) fun _=>rdr_pure _
 ·exact Ext.bnd (a:=true) ext_gate (fun _=>ext_pure _) (.inl rfl) fun _=>rdr_pure _
 ·exact Ext.bnd (a:=true) ext_page (fun _=>ext_pure _) (.inl rfl) fun _=>rdr_pure _
 ·exact Ext.bnd (a:=true) ext_group (fun _=>ext_pure _) (.inl rfl) fun _=>rdr_pure _
 ·exact Ext.bnd (a:=true) ext_phase (fun _=>ext_pure _) (.inl rfl) fun _=>rdr_pure _
 ·exact ext_pure _
theorem ho_stM:HO stM:=fun _ _ _=>rfl
theorem ext_stB (m:MdD):Ext false (stB m):=by
 rw [show stB m=PN.bnd (fun s=>takeS (stM s) s) (stW m) from funext (stB_eq m)]
 exact Ext.bnd (a:=true) (ext_take ho_stM) (ext_stW m) (.inl rfl) (rdr_stW m)
theorem nl_stB (m:MdD):Nl false (stB m):=by
 rw [show stB m=PN.bnd (fun s=>takeS (stM s) s) (stW m) from funext (stB_eq m)]
 exact Nl.bnd1 nl_take (rdr_stW m)
def rdT (m:MdD):PS→MdD×PS:=PN.bnd (fun s=>((),expS kTop s)) fun _=>PN.bnd inputS fun t=>PN.bnd (fun s=>((),expS kSemi s)) fun _ s=>({m with top:=t},s)
theorem rdr_rdT (m:MdD):Rdr (rdT m):=Rdr.bnd (rdr_exp _) fun _=>Rdr.bnd rdr_input fun t=>Rdr.bnd (rdr_exp _) fun _=>rdr_pure _
theorem ext_rdT (m:MdD):Ext true (rdT m):=Ext.bnd (a:=true) (ext_exp kTop) (fun _=>Ext.bnd (a:=true) ext_input (fun t=>Ext.bnd (a:=true) (ext_exp kSemi) (fun _=>ext_pure _) (.inl rfl) fun _=>rdr_pure _) (.inl rfl) fun t=>Rdr.bnd (rdr_exp _) fun _=>rdr_pure _) (.inl rfl) (fun _=>Rdr.bnd rdr_input fun t=>Rdr.bnd (rdr_exp _) fun _=>rdr_pure _)
def readT:PS→MdD×PS:=PN.bnd (fun s=>((),expS kModel s)) fun _=>PN.bnd wordS fun nm=>PN.bnd (fun s=>((),expS kSemi s)) fun _=>PN.bnd (lpS (fun s=> !isS s kTop) stB {md0 with name:=nm}) rdT
theorem readS_T (s:PS):readS s=((readT s).1,endS (readT s).2):=by rw [readS_eq];rfl
theorem ext_readT:Ext true readT:=by
 have r4:∀nm,Rdr (PN.bnd (lpS (fun s=> !isS s kTop) stB {md0 with name:=nm}) rdT):=fun nm=>Rdr.bnd (rdr_lp rdr_stB _) rdr_rdT
 have e4:∀nm,Ext true (PN.bnd (lpS (fun s=> !isS s kTop) stB {md0 with name:=nm}) rdT):=fun nm=>Ext.bnd (ext_lp (ho_is kTop).not ext_stB nl_stB rdr_stB con_stB _) ext_rdT (.inr fun m=>Nl.bnd1 (nl_exp kTop) fun _=>Rdr.bnd rdr_input fun t=>Rdr.bnd (rdr_exp _) fun _=>rdr_pure _) rdr_rdT
 exact Ext.bnd (a:=true) (ext_exp kModel) (fun _=>Ext.bnd (a:=true) ext_word (fun nm=>Ext.bnd (a:=true) (ext_exp kSemi) (fun _=>e4 nm) (.inl rfl) fun _=>r4 nm) (.inl rfl) fun nm=>Rdr.bnd (rdr_exp _) fun _=>r4 nm) (.inl rfl) (fun _=>Rdr.bnd rdr_word fun nm=>Rdr.bnd (rdr_exp _) fun _=>r4 nm)
theorem read_all {l:List TK} (h:(readS ⟨l,0⟩).2.e=0):(readT ⟨l,0⟩).2=⟨[],0⟩:=by
 rw [readS_T] at h
 dsimp only at h
 unfold endS at h
 split at h
 ·cases h
 ·rename_i hn
  have:(readT ⟨l,0⟩).2.l=[]:=Decidable.not_not.1 fun z=>hn ⟨h,z⟩
  rw [ps_eta _ h,this]
theorem read_more {l x:List TK} (h:(readS ⟨l,0⟩).2.e=0) (hx:x≠[]):(readS ⟨l++x,0⟩).2.e=2:=by
 have ha:=read_all h
 rcases ext_readT l x with q|q|⟨q,_⟩
 ·rw [ha] at q;cases q
 ·cases q.1
 ·rw [ha] at q
  rw [readS_T,q]
  unfold endS
  rw [if_pos ⟨rfl,hx⟩]
theorem read_less {l x:List TK} (h:(readS ⟨l++x,0⟩).2.e=0) (hx:x≠[]):(readS ⟨l,0⟩).2.e=20:=by
 have ha:=read_all h
 rcases ext_readT l x with q|q|⟨q,_⟩
 ·rw [readS_T]
  dsimp only
  unfold endS
  rw [if_neg (fun z=>by omega)]
  exact q
 ·cases q.1
 ·rw [ha] at q
  have:=congrArg PS.l q
  simp at this
  exact absurd this.2 hx
end Go.PN
namespace Go.PN
open Go.AI
theorem joinS_app1 (t:TK) (l:List TK):joinS (l++[t])=(if l.length>0 then joinS l++[32] else joinS l)++t.text:=by
 cases l with
 |nil=>rfl
 |cons x l=>rw [joinS_snoc t (by simp),if_pos (by simp)];simp
def cutW:List BS:=[[97],[116,111,112],[49],[59],[123],[64]]
def cutT (r:Nat):TK:=⟨[0,0,1,2,2,2].getD r 2,cutW.getD r []⟩
theorem cutT_ok:∀r,r<6→LexOk (cutT r)
 |0,_=>.word rfl (by decide) (by decide) (by decide) (by decide)
 |1,_=>.word rfl (by decide) (by decide) (by decide) (by decide)
 |2,_=>.num rfl (by decide) (by decide) (.all (by decide))
 |3,_=>.sgn rfl (by decide) (by decide)
 |4,_=>.sgn rfl (by decide) (by decide)
 |5,_=>.sgn rfl (by decide) (by decide)
 |r+6,h=>absurd h om
theorem cutT_len:∀r,r<6→(cutT r).text.length≤3
 |0,_=>by decide
 |1,_=>by decide
 |2,_=>by decide
 |3,_=>by decide
 |4,_=>by decide
 |5,_=>by decide
 |r+6,h=>absurd h om
theorem modelP_e {ck:MdD→Int} {l:BS} {ts:List TK} {c:Int} (h1:splitS l=(0,ts)) (h2:(readS ⟨ts,0⟩).2.e=c) (h0:c≠0):modelP ck l=(md0,c):=by
 unfold modelP
 rw [h1]
 dsimp only
 rw [if_neg (by decide),if_pos (by rw [h2];exact h0),h2]
end Go.PN
namespace Go.Proofs.YteocnikcjjonbaaGreat
open Go.AI Go.PN
attribute [local irreducible] aw Fa Fh DrK
theorem rjoin_fa (xs:List TX) (n:Nat) (hn:n≤xs.length) (hl:n≤1048576) (hB:txLen (xs.map TX.t)≤1048576):Fa Tryz.prog 16 [.c (.row true 5 n (txsF xs))] (.c (.str (sB (joinS ((xs.take n).map TX.t))))):=by
 refine fa_of_body Tryz.func16 rfl rfl (by simp [Tryz.ntmps16]) fun C hC=> ?_
 simp only [initS,Nat.reduceAdd]
 repeat' first|refine yA1 o0 ?_|(refine xW ?_;refine xS ?_)|refine xP ?_|refine xN ?_|refine aw_cd eE (fun hb=>?_) (fun hb=>?_)|refine aw_ce eE (fun hb=>?_) (fun hb=>?_)|refine aw_cn eE (fun hb=>?_) (fun hb=>?_)|(refine xF (fun hb=>?_) (fun hb=>?_)<;>fail_if_success (cases hb;done))|(refine aw_gsd rfl rfl eE (fun hb=>?_) (fun hb=>?_)<;>refine xS ?_)|(refine aw_gse rfl rfl eE (fun hb=>?_) (fun hb=>?_)<;>refine xS ?_)|(refine aw_gsn rfl rfl eE (fun hb=>?_) (fun hb=>?_)<;>refine xS ?_)|(refine aw_gs rfl rfl eE (fun hb=>?_) (fun hb=>?_)<;>fail_if_success (cases hb;done)<;>refine xS ?_)|(refine drk_gsd rfl rfl eE (fun hb=>?_) (fun hb=>?_)<;>refine xS ?_)|(refine drk_gse rfl rfl eE (fun hb=>?_) (fun hb=>?_)<;>refine xS ?_)|(refine drk_gsn rfl rfl eE (fun hb=>?_) (fun hb=>?_)<;>refine xS ?_)|(refine drk_gs rfl rfl eE (fun hb=>?_) (fun hb=>?_)<;>fail_if_success (cases hb;done)<;>refine xS ?_)
 refine aw_lp (fun i:Nat=>[(3,.c (.str (sB (joinS ((xs.take i).map TX.t))))),(6,.c (.row true 5 n (txsF xs))),(7,.c (.int .i64 n)),(8,.c (.int .i64 i))]) (fun _=>[]) (fun i=>i≤n) (fun i=>n-i) 0 eB zZ (Nat.zero_le _) ?_
 intro i hi
 repeat' first|refine yA1 o0 ?_|(refine xW ?_;refine xS ?_)|refine xP ?_|refine xN ?_|refine aw_cd eE (fun hb=>?_) (fun hb=>?_)|refine aw_ce eE (fun hb=>?_) (fun hb=>?_)|refine aw_cn eE (fun hb=>?_) (fun hb=>?_)|(refine xF (fun hb=>?_) (fun hb=>?_)<;>fail_if_success (cases hb;done))|(refine aw_gsd rfl rfl eE (fun hb=>?_) (fun hb=>?_)<;>refine xS ?_)|(refine aw_gse rfl rfl eE (fun hb=>?_) (fun hb=>?_)<;>refine xS ?_)|(refine aw_gsn rfl rfl eE (fun hb=>?_) (fun hb=>?_)<;>refine xS ?_)|(refine aw_gs rfl rfl eE (fun hb=>?_) (fun hb=>?_)<;>fail_if_success (cases hb;done)<;>refine xS ?_)|(refine drk_gsd rfl rfl eE (fun hb=>?_) (fun hb=>?_)<;>refine xS ?_)|(refine drk_gse rfl rfl eE (fun hb=>?_) (fun hb=>?_)<;>refine xS ?_)|(refine drk_gsn rfl rfl eE (fun hb=>?_) (fun hb=>?_)<;>refine xS ?_)|(refine drk_gs rfl rfl eE (fun hb=>?_) (fun hb=>?_)<;>fail_if_success (cases hb;done)<;>refine xS ?_)
 ·have hi':=hb
  have hix:i<xs.length:=by omega
  have e1:joinS ((xs.take (i+1)).map TX.t)=(if((xs.take i).map TX.t).length>0 then joinS ((xs.take i).map TX.t)++[32] else joinS ((xs.take i).map TX.t))++(xs.getD i tx0).t.text:=by
   rw [take_snoc tx0 hix,List.map_append]
   exact joinS_app1 _ _
  have e2:((xs.take i).map TX.t).length=i:=by rw [List.length_map,List.length_take];omega
  rw [e2] at e1
  have b1:(joinS ((xs.take i).map TX.t)).length≤2097152:=by
   have h1:=joinS_len ((xs.take i).map TX.t)
   have h2:=txLen_take (xs.map TX.t) i
   rw [←List.map_take] at h2
   omega
  have b2:(xs.getD i tx0).t.text.length≤1048576:=by
   refine Nat.le_trans (tx_mem (t:=(xs.getD i tx0).t) ?_) hB
   rw [List.getD_eq_getElem?_getD,List.getElem?_eq_getElem hix]
   exact List.mem_map_of_mem (List.getElem_mem hix)
  have b3:(joinS ((xs.take i).map TX.t)++[32]).length≤2097153:=by rw [List.length_append,List.length_singleton];omega
  refine xA fun g5 hn_g5=>?_
  repeat' first|refine yA1 hn_g5 ?_|(refine yW hn_g5 ?_;refine yS hn_g5 ?_)|refine yP hn_g5 ?_|refine yN hn_g5 ?_|refine aw_cd (zE hn_g5) (fun hb=>?_) (fun hb=>?_)|refine aw_ce (zE hn_g5) (fun hb=>?_) (fun hb=>?_)|refine aw_cn (zE hn_g5) (fun hb=>?_) (fun hb=>?_)|(refine yF hn_g5 (fun hb=>?_) (fun hb=>?_)<;>fail_if_success (cases hb;done))|(refine aw_gsd rfl rfl (zE hn_g5) (fun hb=>?_) (fun hb=>?_)<;>refine yS hn_g5 ?_)|(refine aw_gse rfl rfl (zE hn_g5) (fun hb=>?_) (fun hb=>?_)<;>refine yS hn_g5 ?_)|(refine aw_gsn rfl rfl (zE hn_g5) (fun hb=>?_) (fun hb=>?_)<;>refine yS hn_g5 ?_)|(refine aw_gs rfl rfl (zE hn_g5) (fun hb=>?_) (fun hb=>?_)<;>fail_if_success (cases hb;done)<;>refine yS hn_g5 ?_)|(refine drk_gsd rfl rfl (zE hn_g5) (fun hb=>?_) (fun hb=>?_)<;>refine yS hn_g5 ?_)|(refine drk_gse rfl rfl (zE hn_g5) (fun hb=>?_) (fun hb=>?_)<;>refine yS hn_g5 ?_)|(refine drk_gsn rfl rfl (zE hn_g5) (fun hb=>?_) (fun hb=>?_)<;>refine yS hn_g5 ?_)|(refine drk_gs rfl rfl (zE hn_g5) (fun hb=>?_) (fun hb=>?_)<;>fail_if_success (cases hb;done)<;>refine yS hn_g5 ?_)
  ·refine aw_stop ⟨i+1,?_⟩
   have e3:=e1.trans (congrArg (· ++(xs.getD i tx0).t.text) (if_pos hb))
   and_intros
   all_goals first|rfl|exact List.nil_sublist _|exact True.intro|omega|(rw [e3];rfl)|(rw [e3])
  ·refine aw_stop ⟨i+1,?_⟩
   have e3:=e1.trans (congrArg (· ++(xs.getD i tx0).t.text) (if_neg hb))
   and_intros
   all_goals first|rfl|exact List.nil_sublist _|exact True.intro|omega|(rw [e3];rfl)|(rw [e3])
 ·have:i=n:=by omega
  subst this
  refine xT hC ?_
  exact .one (.c (.str _))
theorem lawPCut_fa (l:BS) (c u:Nat) (hl:l.length≤1048576) (hc:c≤65535) (hu:u≤255):Fa Tryz.prog 6 [.c (.str (sB l)),.c (.int .u16 c),.c (.int .u8 u)] (.c (.bool true)):=by
 have f0:=awake23_fa
 have f1:=pm_fa l om
 have hk:=modelP_ck (ck:=mcC) (l:=l)
 generalize modelP mcC l=M at*
 obtain⟨m,e⟩:=M
 dsimp only at*
 refine fa_of_body Tryz.func6 rfl rfl (by simp [Tryz.ntmps6]) fun C hC=> ?_
 simp only [initS,Nat.reduceAdd]
 repeat' first|refine yA1 o0 ?_|(refine yC2 o0 (f0) ?_)|(refine yD2 o0 (f0) ?_)|(refine xW ?_;refine xS ?_)|refine xP ?_|refine xN ?_|refine aw_cd eE (fun hb=>?_) (fun hb=>?_)|refine aw_ce eE (fun hb=>?_) (fun hb=>?_)|refine aw_cn eE (fun hb=>?_) (fun hb=>?_)|(refine xF (fun hb=>?_) (fun hb=>?_)<;>fail_if_success (cases hb;done))|(refine aw_gsd rfl rfl eE (fun hb=>?_) (fun hb=>?_)<;>refine xS ?_)|(refine aw_gse rfl rfl eE (fun hb=>?_) (fun hb=>?_)<;>refine xS ?_)|(refine aw_gsn rfl rfl eE (fun hb=>?_) (fun hb=>?_)<;>refine xS ?_)|(refine aw_gs rfl rfl eE (fun hb=>?_) (fun hb=>?_)<;>fail_if_success (cases hb;done)<;>refine xS ?_)|(refine drk_gsd rfl rfl eE (fun hb=>?_) (fun hb=>?_)<;>refine xS ?_)|(refine drk_gse rfl rfl eE (fun hb=>?_) (fun hb=>?_)<;>refine xS ?_)|(refine drk_gsn rfl rfl eE (fun hb=>?_) (fun hb=>?_)<;>refine xS ?_)|(refine drk_gs rfl rfl eE (fun hb=>?_) (fun hb=>?_)<;>fail_if_success (cases hb;done)<;>refine xS ?_)
 ·repeat' first|refine yA1 o0 ?_|(refine yC2 o0 (f0) ?_)|(refine yD2 o0 (f0) ?_)|(refine xW ?_;refine xS ?_)|refine xP ?_|refine xN ?_|refine aw_cd eE (fun hb=>?_) (fun hb=>?_)|refine aw_ce eE (fun hb=>?_) (fun hb=>?_)|refine aw_cn eE (fun hb=>?_) (fun hb=>?_)|(refine xF (fun hb=>?_) (fun hb=>?_)<;>fail_if_success (cases hb;done))|(refine aw_gsd rfl rfl eE (fun hb=>?_) (fun hb=>?_)<;>refine xS ?_)|(refine aw_gse rfl rfl eE (fun hb=>?_) (fun hb=>?_)<;>refine xS ?_)|(refine aw_gsn rfl rfl eE (fun hb=>?_) (fun hb=>?_)<;>refine xS ?_)|(refine aw_gs rfl rfl eE (fun hb=>?_) (fun hb=>?_)<;>fail_if_success (cases hb;done)<;>refine xS ?_)|(refine drk_gsd rfl rfl eE (fun hb=>?_) (fun hb=>?_)<;>refine xS ?_)|(refine drk_gse rfl rfl eE (fun hb=>?_) (fun hb=>?_)<;>refine xS ?_)|(refine drk_gsn rfl rfl eE (fun hb=>?_) (fun hb=>?_)<;>refine xS ?_)|(refine drk_gs rfl rfl eE (fun hb=>?_) (fun hb=>?_)<;>fail_if_success (cases hb;done)<;>refine xS ?_)
  refine xT hC ?_
  exact .one (.c (.bool _))
 have h3:l.length≤3000:=by omega
 repeat' first|refine yA1 o0 ?_|(refine yC2 o0 (f1) ?_)|(refine yD2 o0 (f1) ?_)|(refine xW ?_;refine xS ?_)|refine xP ?_|refine xN ?_|refine aw_cd eE (fun hb=>?_) (fun hb=>?_)|refine aw_ce eE (fun hb=>?_) (fun hb=>?_)|refine aw_cn eE (fun hb=>?_) (fun hb=>?_)|(refine xF (fun hb=>?_) (fun hb=>?_)<;>fail_if_success (cases hb;done))|(refine aw_gsd rfl rfl eE (fun hb=>?_) (fun hb=>?_)<;>refine xS ?_)|(refine aw_gse rfl rfl eE (fun hb=>?_) (fun hb=>?_)<;>refine xS ?_)|(refine aw_gsn rfl rfl eE (fun hb=>?_) (fun hb=>?_)<;>refine xS ?_)|(refine aw_gs rfl rfl eE (fun hb=>?_) (fun hb=>?_)<;>fail_if_success (cases hb;done)<;>refine xS ?_)|(refine drk_gsd rfl rfl eE (fun hb=>?_) (fun hb=>?_)<;>refine xS ?_)|(refine drk_gse rfl rfl eE (fun hb=>?_) (fun hb=>?_)<;>refine xS ?_)|(refine drk_gsn rfl rfl eE (fun hb=>?_) (fun hb=>?_)<;>refine xS ?_)|(refine drk_gs rfl rfl eE (fun hb=>?_) (fun hb=>?_)<;>fail_if_success (cases hb;done)<;>refine xS ?_)
 refine xA fun g7 hn_g7=>?_
 repeat' first|refine yA1 hn_g7 ?_|(refine yW hn_g7 ?_;refine yS hn_g7 ?_)|refine yP hn_g7 ?_|refine yN hn_g7 ?_|refine aw_cd (zE hn_g7) (fun hb=>?_) (fun hb=>?_)|refine aw_ce (zE hn_g7) (fun hb=>?_) (fun hb=>?_)|refine aw_cn (zE hn_g7) (fun hb=>?_) (fun hb=>?_)|(refine yF hn_g7 (fun hb=>?_) (fun hb=>?_)<;>fail_if_success (cases hb;done))|(refine aw_gsd rfl rfl (zE hn_g7) (fun hb=>?_) (fun hb=>?_)<;>refine yS hn_g7 ?_)|(refine aw_gse rfl rfl (zE hn_g7) (fun hb=>?_) (fun hb=>?_)<;>refine yS hn_g7 ?_)|(refine aw_gsn rfl rfl (zE hn_g7) (fun hb=>?_) (fun hb=>?_)<;>refine yS hn_g7 ?_)|(refine aw_gs rfl rfl (zE hn_g7) (fun hb=>?_) (fun hb=>?_)<;>fail_if_success (cases hb;done)<;>refine yS hn_g7 ?_)|(refine drk_gsd rfl rfl (zE hn_g7) (fun hb=>?_) (fun hb=>?_)<;>refine yS hn_g7 ?_)|(refine drk_gse rfl rfl (zE hn_g7) (fun hb=>?_) (fun hb=>?_)<;>refine yS hn_g7 ?_)|(refine drk_gsn rfl rfl (zE hn_g7) (fun hb=>?_) (fun hb=>?_)<;>refine yS hn_g7 ?_)|(refine drk_gs rfl rfl (zE hn_g7) (fun hb=>?_) (fun hb=>?_)<;>fail_if_success (cases hb;done)<;>refine yS hn_g7 ?_)
 ·refine yT hC hn_g7 ?_
  exact .one (.c (.bool _))
 have he:e=0:=by simpa using hb
 obtain⟨q1,q2,_,_⟩:=hk he
 have hlx:=splitS_lex l
 have htx:=splitS_tx l
 have hn:=splitS_n l
 refine aw_callh (hc:=[]) (hr:=[(g7,.cells 30 8 (ofL (mdc true m)))]) (rsplit_fh l om) rfl rfl rfl (.refl _) (zL hn_g7) ?_
 rintro _ _ ⟨rfl,out,ho,rfl⟩ _
 rw [q1]
 simp only [List.nil_append]
 generalize hL:(splitS l).2=L at*
 have hlen:out.length=L.length:=by rw [←ho,List.length_map]
 have h0:0<out.length:=by
  rw [hlen]
  cases L with
  |nil=>exact absurd q2 (by decide)
  |cons t L=>simp
 refine yS hn_g7 ?_
 repeat' first|refine yA1 hn_g7 ?_|(refine yW hn_g7 ?_;refine yS hn_g7 ?_)|refine yP hn_g7 ?_|refine yN hn_g7 ?_|refine aw_cd (zE hn_g7) (fun hb=>?_) (fun hb=>?_)|refine aw_ce (zE hn_g7) (fun hb=>?_) (fun hb=>?_)|refine aw_cn (zE hn_g7) (fun hb=>?_) (fun hb=>?_)|(refine yF hn_g7 (fun hb=>?_) (fun hb=>?_)<;>fail_if_success (cases hb;done))|(refine aw_gsd rfl rfl (zE hn_g7) (fun hb=>?_) (fun hb=>?_)<;>refine yS hn_g7 ?_)|(refine aw_gse rfl rfl (zE hn_g7) (fun hb=>?_) (fun hb=>?_)<;>refine yS hn_g7 ?_)|(refine aw_gsn rfl rfl (zE hn_g7) (fun hb=>?_) (fun hb=>?_)<;>refine yS hn_g7 ?_)|(refine aw_gs rfl rfl (zE hn_g7) (fun hb=>?_) (fun hb=>?_)<;>fail_if_success (cases hb;done)<;>refine yS hn_g7 ?_)|(refine drk_gsd rfl rfl (zE hn_g7) (fun hb=>?_) (fun hb=>?_)<;>refine yS hn_g7 ?_)|(refine drk_gse rfl rfl (zE hn_g7) (fun hb=>?_) (fun hb=>?_)<;>refine yS hn_g7 ?_)|(refine drk_gsn rfl rfl (zE hn_g7) (fun hb=>?_) (fun hb=>?_)<;>refine yS hn_g7 ?_)|(refine drk_gs rfl rfl (zE hn_g7) (fun hb=>?_) (fun hb=>?_)<;>fail_if_success (cases hb;done)<;>refine yS hn_g7 ?_)
 ·exfalso;omega
 have hwu:wrapZ .i64 (c:Int)=c:=by rw [wrapZ_eq,wrap_i64 om om]
 have hrm:=rem_nat c out.length
 have hix:=Nat.mod_lt c h0
 generalize c%out.length=k at*
 have hB:txLen (out.map TX.t)≤1048576:=by rw [ho];omega
 have fj:=rjoin_fa out k om om hB
 have hmt:(out.take k).map TX.t=L.take k:=by rw [List.map_take,ho]
 rw [hmt] at fj
 have j1:=joinS_len (L.take k)
 have j2:=txLen_take L k
 have j3:(L.take k).length≤L.length:=by rw [List.length_take];omega
 have hsp:=splitS_lx (joinS_lx (l:=L.take k) fun t ht=>hlx t (List.mem_of_mem_take ht)) om
 have hre:(readS ⟨L.take k,0⟩).2.e=20:=read_less (x:=L.drop k) (by rw [List.take_append_drop];exact q2) (fun z=>by
  have:=congrArg List.length z
  rw [List.length_drop,List.length_nil] at this
  omega)
 have fp:=pm_fa (joinS (L.take k)) om
 rw [modelP_e hsp hre (by decide)] at fp
 dsimp only at fp
 repeat' first|refine yA1 (oj hn_g7 (oj hwu hrm)) ?_|(refine yC2 (oj hn_g7 (oj hwu hrm)) (fj) ?_)|(refine yD2 (oj hn_g7 (oj hwu hrm)) (fj) ?_)|(refine yC2 (oj hn_g7 (oj hwu hrm)) (fp) ?_)|(refine yD2 (oj hn_g7 (oj hwu hrm)) (fp) ?_)|(refine yW (oj hn_g7 (oj hwu hrm)) ?_;refine yS (oj hn_g7 (oj hwu hrm)) ?_)|refine yP (oj hn_g7 (oj hwu hrm)) ?_|refine yN (oj hn_g7 (oj hwu hrm)) ?_|refine aw_cd (zE (oj hn_g7 (oj hwu hrm))) (fun hb=>?_) (fun hb=>?_)|refine aw_ce (zE (oj hn_g7 (oj hwu hrm))) (fun hb=>?_) (fun hb=>?_)|refine aw_cn (zE (oj hn_g7 (oj hwu hrm))) (fun hb=>?_) (fun hb=>?_)|(refine yF (oj hn_g7 (oj hwu hrm)) (fun hb=>?_) (fun hb=>?_)<;>fail_if_success (cases hb;done))|(refine aw_gsd rfl rfl (zE (oj hn_g7 (oj hwu hrm))) (fun hb=>?_) (fun hb=>?_)<;>refine yS (oj hn_g7 (oj hwu hrm)) ?_)|(refine aw_gse rfl rfl (zE (oj hn_g7 (oj hwu hrm))) (fun hb=>?_) (fun hb=>?_)<;>refine yS (oj hn_g7 (oj hwu hrm)) ?_)|(refine aw_gsn rfl rfl (zE (oj hn_g7 (oj hwu hrm))) (fun hb=>?_) (fun hb=>?_)<;>refine yS (oj hn_g7 (oj hwu hrm)) ?_)|(refine aw_gs rfl rfl (zE (oj hn_g7 (oj hwu hrm))) (fun hb=>?_) (fun hb=>?_)<;>fail_if_success (cases hb;done)<;>refine yS (oj hn_g7 (oj hwu hrm)) ?_)|(refine drk_gsd rfl rfl (zE (oj hn_g7 (oj hwu hrm))) (fun hb=>?_) (fun hb=>?_)<;>refine yS (oj hn_g7 (oj hwu hrm)) ?_)|(refine drk_gse rfl rfl (zE (oj hn_g7 (oj hwu hrm))) (fun hb=>?_) (fun hb=>?_)<;>refine yS (oj hn_g7 (oj hwu hrm)) ?_)|(refine drk_gsn rfl rfl (zE (oj hn_g7 (oj hwu hrm))) (fun hb=>?_) (fun hb=>?_)<;>refine yS (oj hn_g7 (oj hwu hrm)) ?_)|(refine drk_gs rfl rfl (zE (oj hn_g7 (oj hwu hrm))) (fun hb=>?_) (fun hb=>?_)<;>fail_if_success (cases hb;done)<;>refine yS (oj hn_g7 (oj hwu hrm)) ?_)
 refine yA (oj hn_g7 (oj hwu hrm)) fun g11 hn_g11=>?_
 repeat' first|refine yA1 (oj hn_g7 (oj hwu (oj hrm hn_g11))) ?_|(refine yW (oj hn_g7 (oj hwu (oj hrm hn_g11))) ?_;refine yS (oj hn_g7 (oj hwu (oj hrm hn_g11))) ?_)|refine yP (oj hn_g7 (oj hwu (oj hrm hn_g11))) ?_|refine yN (oj hn_g7 (oj hwu (oj hrm hn_g11))) ?_|refine aw_cd (zE (oj hn_g7 (oj hwu (oj hrm hn_g11)))) (fun hb=>?_) (fun hb=>?_)|refine aw_ce (zE (oj hn_g7 (oj hwu (oj hrm hn_g11)))) (fun hb=>?_) (fun hb=>?_)|refine aw_cn (zE (oj hn_g7 (oj hwu (oj hrm hn_g11)))) (fun hb=>?_) (fun hb=>?_)|(refine yF (oj hn_g7 (oj hwu (oj hrm hn_g11))) (fun hb=>?_) (fun hb=>?_)<;>fail_if_success (cases hb;done))|(refine aw_gsd rfl rfl (zE (oj hn_g7 (oj hwu (oj hrm hn_g11)))) (fun hb=>?_) (fun hb=>?_)<;>refine yS (oj hn_g7 (oj hwu (oj hrm hn_g11))) ?_)|(refine aw_gse rfl rfl (zE (oj hn_g7 (oj hwu (oj hrm hn_g11)))) (fun hb=>?_) (fun hb=>?_)<;>refine yS (oj hn_g7 (oj hwu (oj hrm hn_g11))) ?_)|(refine aw_gsn rfl rfl (zE (oj hn_g7 (oj hwu (oj hrm hn_g11)))) (fun hb=>?_) (fun hb=>?_)<;>refine yS (oj hn_g7 (oj hwu (oj hrm hn_g11))) ?_)|(refine aw_gs rfl rfl (zE (oj hn_g7 (oj hwu (oj hrm hn_g11)))) (fun hb=>?_) (fun hb=>?_)<;>fail_if_success (cases hb;done)<;>refine yS (oj hn_g7 (oj hwu (oj hrm hn_g11))) ?_)|(refine drk_gsd rfl rfl (zE (oj hn_g7 (oj hwu (oj hrm hn_g11)))) (fun hb=>?_) (fun hb=>?_)<;>refine yS (oj hn_g7 (oj hwu (oj hrm hn_g11))) ?_)|(refine drk_gse rfl rfl (zE (oj hn_g7 (oj hwu (oj hrm hn_g11)))) (fun hb=>?_) (fun hb=>?_)<;>refine yS (oj hn_g7 (oj hwu (oj hrm hn_g11))) ?_)|(refine drk_gsn rfl rfl (zE (oj hn_g7 (oj hwu (oj hrm hn_g11)))) (fun hb=>?_) (fun hb=>?_)<;>refine yS (oj hn_g7 (oj hwu (oj hrm hn_g11))) ?_)|(refine drk_gs rfl rfl (zE (oj hn_g7 (oj hwu (oj hrm hn_g11)))) (fun hb=>?_) (fun hb=>?_)<;>fail_if_success (cases hb;done)<;>refine yS (oj hn_g7 (oj hwu (oj hrm hn_g11))) ?_)
 refine aw_buildSlice (xs:=[.const (.string (sB [97])),.const (.string (sB [116,111,112])),.const (.string (sB [49])),.const (.string (sB [59])),.const (.string (sB [123])),.const (.string (sB [64]))]) (cells:=[.str (sB [97]),.str (sB [116,111,112]),.str (sB [49]),.str (sB [59]),.str (sB [123]),.str (sB [64])]) rfl rfl rfl (zE (oj hn_g7 (oj hwu (oj hrm hn_g11)))) (by refine yS (oj hn_g7 (oj hwu (oj hrm hn_g11))) ?_;rfl) rfl om om (by intro z hz;simp only [List.mem_cons,List.not_mem_nil,or_false] at hz;rcases hz with rfl|rfl|rfl|rfl|rfl|rfl<;>exact⟨rfl,rfl,rfl⟩) rfl fun gw hgw=> ?_
 refine aw_convR (f':=strsF cutW) (fun j hj S w v hr=>by
  rw [strsF_0]
  match j,hj with
  |0,_=>exact hr
  |1,_=>exact hr
  |2,_=>exact hr
  |3,_=>exact hr
  |4,_=>exact hr
  |5,_=>exact hr
  |j+6,hj=>exact absurd hj om) ?_
 replace hgw:=Heap.ne_of hgw
 dsimp only [Heap.ne] at hgw
 have hru:=rem_nat u 6
 have hr6:=Nat.mod_lt u (show 0<6 from by decide)
 generalize hr:u%6=r at*
 have hru:remZ (u:Int) 6=(r:Int):=hru
 have fj2:=rjoin_fa out out.length (Nat.le_refl _) om hB
 rw [List.take_length,ho] at fj2
 have k1:=joinS_len L
 have hw3:(cutW.getD r []).length≤3:=cutT_len r hr6
 have hLn:L≠[]:=fun z=>by rw [z] at hlen;rw [hlen] at h0;exact absurd h0 (by decide)
 have e5:joinS (L++[cutT r])=(joinS L++[32])++cutW.getD r []:=by
  rw [joinS_snoc _ hLn,List.append_assoc];rfl
 have hsp2:splitS ((joinS L++[32])++cutW.getD r [])=(0,L++[cutT r]):=by
  rw [←e5]
  refine splitS_lx (joinS_lx fun t ht=> ?_) ?_
  ·rcases List.mem_append.1 ht with e|e
   ·exact hlx t e
   ·rw [List.mem_singleton.1 e];exact cutT_ok r hr6
  ·rw [e5,List.length_append,List.length_append,List.length_singleton];omega
 have hre2:(readS ⟨L++[cutT r],0⟩).2.e=2:=read_more q2 (by simp)
 have l1:(joinS L++[32]).length≤1048576:=by rw [List.length_append,List.length_singleton];omega
 have l2:((joinS L++[32])++cutW.getD r []).length≤1099511627776:=by rw [List.length_append];omega
 have fp2:=pm_fa ((joinS L++[32])++cutW.getD r []) l2
 rw [modelP_e hsp2 hre2 (by decide)] at fp2
 dsimp only at fp2
 have g1:=is_fa 20 20 (by decide)
 have g2:=is_fa 2 2 (by decide)
 clear hsp2 hre2 hsp hre e5 hmt fj fp f1 f0
 have J1:=oj hn_g7 (oj hwu (oj hrm (oj hn_g11 (oj hgw hru))))
 refine yS J1 ?_
 repeat' first|refine yA1 J1 ?_|(refine yC2 J1 (fj2) ?_)|(refine yD2 J1 (fj2) ?_)|(refine yC2 J1 (fp2) ?_)|(refine yD2 J1 (fp2) ?_)|(refine yW J1 ?_;refine yS J1 ?_)|refine yP J1 ?_|refine yN J1 ?_|refine aw_cd (zE J1) (fun hb=>?_) (fun hb=>?_)|refine aw_ce (zE J1) (fun hb=>?_) (fun hb=>?_)|refine aw_cn (zE J1) (fun hb=>?_) (fun hb=>?_)|(refine yF J1 (fun hb=>?_) (fun hb=>?_)<;>fail_if_success (cases hb;done))|(refine aw_gsd rfl rfl (zE J1) (fun hb=>?_) (fun hb=>?_)<;>refine yS J1 ?_)|(refine aw_gse rfl rfl (zE J1) (fun hb=>?_) (fun hb=>?_)<;>refine yS J1 ?_)|(refine aw_gsn rfl rfl (zE J1) (fun hb=>?_) (fun hb=>?_)<;>refine yS J1 ?_)|(refine aw_gs rfl rfl (zE J1) (fun hb=>?_) (fun hb=>?_)<;>fail_if_success (cases hb;done)<;>refine yS J1 ?_)|(refine drk_gsd rfl rfl (zE J1) (fun hb=>?_) (fun hb=>?_)<;>refine yS J1 ?_)|(refine drk_gse rfl rfl (zE J1) (fun hb=>?_) (fun hb=>?_)<;>refine yS J1 ?_)|(refine drk_gsn rfl rfl (zE J1) (fun hb=>?_) (fun hb=>?_)<;>refine yS J1 ?_)|(refine drk_gs rfl rfl (zE J1) (fun hb=>?_) (fun hb=>?_)<;>fail_if_success (cases hb;done)<;>refine yS J1 ?_)
 refine yA J1 fun g14 hn_g14=>?_
 repeat' first|refine yA1 (oj hn_g7 (oj hwu (oj hrm (oj hn_g11 (oj hgw (oj hru hn_g14)))))) ?_|(refine yC2 (oj hn_g7 (oj hwu (oj hrm (oj hn_g11 (oj hgw (oj hru hn_g14)))))) (g1) ?_)|(refine yD2 (oj hn_g7 (oj hwu (oj hrm (oj hn_g11 (oj hgw (oj hru hn_g14)))))) (g1) ?_)|(refine yC2 (oj hn_g7 (oj hwu (oj hrm (oj hn_g11 (oj hgw (oj hru hn_g14)))))) (g2) ?_)|(refine yD2 (oj hn_g7 (oj hwu (oj hrm (oj hn_g11 (oj hgw (oj hru hn_g14)))))) (g2) ?_)|(refine yW (oj hn_g7 (oj hwu (oj hrm (oj hn_g11 (oj hgw (oj hru hn_g14)))))) ?_;refine yS (oj hn_g7 (oj hwu (oj hrm (oj hn_g11 (oj hgw (oj hru hn_g14)))))) ?_)|refine yP (oj hn_g7 (oj hwu (oj hrm (oj hn_g11 (oj hgw (oj hru hn_g14)))))) ?_|refine yN (oj hn_g7 (oj hwu (oj hrm (oj hn_g11 (oj hgw (oj hru hn_g14)))))) ?_|refine aw_cd (zE (oj hn_g7 (oj hwu (oj hrm (oj hn_g11 (oj hgw (oj hru hn_g14))))))) (fun hb=>?_) (fun hb=>?_)|refine aw_ce (zE (oj hn_g7 (oj hwu (oj hrm (oj hn_g11 (oj hgw (oj hru hn_g14))))))) (fun hb=>?_) (fun hb=>?_)|refine aw_cn (zE (oj hn_g7 (oj hwu (oj hrm (oj hn_g11 (oj hgw (oj hru hn_g14))))))) (fun hb=>?_) (fun hb=>?_)|(refine yF (oj hn_g7 (oj hwu (oj hrm (oj hn_g11 (oj hgw (oj hru hn_g14)))))) (fun hb=>?_) (fun hb=>?_)<;>fail_if_success (cases hb;done))|(refine aw_gsd rfl rfl (zE (oj hn_g7 (oj hwu (oj hrm (oj hn_g11 (oj hgw (oj hru hn_g14))))))) (fun hb=>?_) (fun hb=>?_)<;>refine yS (oj hn_g7 (oj hwu (oj hrm (oj hn_g11 (oj hgw (oj hru hn_g14)))))) ?_)|(refine aw_gse rfl rfl (zE (oj hn_g7 (oj hwu (oj hrm (oj hn_g11 (oj hgw (oj hru hn_g14))))))) (fun hb=>?_) (fun hb=>?_)<;>refine yS (oj hn_g7 (oj hwu (oj hrm (oj hn_g11 (oj hgw (oj hru hn_g14)))))) ?_)|(refine aw_gsn rfl rfl (zE (oj hn_g7 (oj hwu (oj hrm (oj hn_g11 (oj hgw (oj hru hn_g14))))))) (fun hb=>?_) (fun hb=>?_)<;>refine yS (oj hn_g7 (oj hwu (oj hrm (oj hn_g11 (oj hgw (oj hru hn_g14)))))) ?_)|(refine aw_gs rfl rfl (zE (oj hn_g7 (oj hwu (oj hrm (oj hn_g11 (oj hgw (oj hru hn_g14))))))) (fun hb=>?_) (fun hb=>?_)<;>fail_if_success (cases hb;done)<;>refine yS (oj hn_g7 (oj hwu (oj hrm (oj hn_g11 (oj hgw (oj hru hn_g14)))))) ?_)|(refine drk_gsd rfl rfl (zE (oj hn_g7 (oj hwu (oj hrm (oj hn_g11 (oj hgw (oj hru hn_g14))))))) (fun hb=>?_) (fun hb=>?_)<;>refine yS (oj hn_g7 (oj hwu (oj hrm (oj hn_g11 (oj hgw (oj hru hn_g14)))))) ?_)|(refine drk_gse rfl rfl (zE (oj hn_g7 (oj hwu (oj hrm (oj hn_g11 (oj hgw (oj hru hn_g14))))))) (fun hb=>?_) (fun hb=>?_)<;>refine yS (oj hn_g7 (oj hwu (oj hrm (oj hn_g11 (oj hgw (oj hru hn_g14)))))) ?_)|(refine drk_gsn rfl rfl (zE (oj hn_g7 (oj hwu (oj hrm (oj hn_g11 (oj hgw (oj hru hn_g14))))))) (fun hb=>?_) (fun hb=>?_)<;>refine yS (oj hn_g7 (oj hwu (oj hrm (oj hn_g11 (oj hgw (oj hru hn_g14)))))) ?_)|(refine drk_gs rfl rfl (zE (oj hn_g7 (oj hwu (oj hrm (oj hn_g11 (oj hgw (oj hru hn_g14))))))) (fun hb=>?_) (fun hb=>?_)<;>fail_if_success (cases hb;done)<;>refine yS (oj hn_g7 (oj hwu (oj hrm (oj hn_g11 (oj hgw (oj hru hn_g14)))))) ?_)
 all_goals first
  |(exfalso;exact hb rfl)
  |(refine yT hC (oj hn_g7 (oj hwu (oj hrm (oj hn_g11 (oj hgw (oj hru hn_g14)))))) ?_
    exact .one (.c (ler_bool rfl)))
end Go.Proofs.YteocnikcjjonbaaGreat
