/- Parts of one proof, laid by a program. -/
import Derived.Test.YtfcnbgmclfkfcaaGreatM00
import Derived.Test.YtfcnbgmclfkfcaaGreatM34
import Derived.Test.YtfcnbgmclfkfcaaGreatM35
import Derived.Test.YtfcnbgmclfkfcaaGreatM36
set_option linter.unusedSimpArgs false
set_option linter.unusedVariables false
namespace Go.PN
open Go.AI
def updP (p:Nat→Rat) (v:Nat) (c:Rat):Nat→Rat:=fun j=>if j=v then c else p j
theorem ex_pcongr {p p':Nat→Rat}:∀(m:Nat) (f:Nat→Rat),(∀j,j<m→p j=p' j)→exQ p m f=exQ p' m f
 |0,f,_=>rfl
 |m+1,f,h=>by
  rw [exQ,exQ,ex_pcongr m _ (fun j hj=>h j om),ex_pcongr m _ (fun j hj=>h j om),h m om]
theorem rd0_q:rd0.q=0:=by
 have:rd0=rd 0:=rd_zero.symm
 rw [this,rd_q]
end Go.PN
namespace Go.PN
open Go.AI
theorem unit_mix {p a b:Rat} (p0:0≤p) (p1:p≤1) (a0:0≤a) (a1:a≤1) (b0:0≤b) (b1:b≤1):0≤(1-p)*a+p*b∧(1-p)*a+p*b≤1:=by
 have q0:0≤1-p:=by grind
 have h1:=Rat.mul_nonneg q0 a0
 have h2:=Rat.mul_nonneg p0 b0
 have h3:=Rat.mul_nonneg q0 (show 0≤1-a by grind)
 have h4:=Rat.mul_nonneg p0 (show 0≤1-b by grind)
 constructor
 ·grind
 ·grind
theorem ex_unit {p:Nat→Rat}:∀(m:Nat) (f:Nat→Rat),(∀i,i<m→0≤p i∧p i≤1)→(∀s,0≤f s∧f s≤1)→0≤exQ p m f∧exQ p m f≤1
 |0,f,_,h=>h 0
 |m+1,f,hp,h=>by
  rw [exQ]
  obtain⟨a0,a1⟩:=ex_unit m f (fun i hi=>hp i om) h
  obtain⟨b0,b1⟩:=ex_unit m (fun s=>f (s+2^m)) (fun i hi=>hp i om) (fun s=>h _)
  exact unit_mix (hp m om).1 (hp m om).2 a0 a1 b0 b1
theorem evB_unit (b:Bool):0≤evB b∧evB b≤1:=by cases b<;>unfold evB<;>constructor<;>decide
end Go.PN
namespace Go.Proofs.YtfcnbgmclfkfcaaGreat
open Go.AI Go.PN
theorem prob_unit {r:RD} (h:r.prob=true):0≤r.q∧r.q≤1:=by
 unfold RD.prob at h
 simp only [Bool.and_eq_true,decide_eq_true_eq] at h
 exact⟨by have:=h;grind,by have:=h;grind⟩
end Go.Proofs.YtfcnbgmclfkfcaaGreat
namespace Go.PN
open Go.AI
theorem setB_add {s v m:Nat} {b:Bool} (hs:s<2^m) (hv:v<m):setB (s+2^m) v b=setB s v b+2^m:=Nat.eq_of_testBit_eq fun j=>by
 have hl:setB s v b<2^m:=by
  refine Nat.lt_pow_two_of_testBit _ fun j hj=> ?_
  rw [setB_bit,if_neg om]
  exact Nat.testBit_lt_two_pow (Nat.lt_of_lt_of_le hs (Nat.pow_le_pow_right om hj))
 rw [setB_bit]
 rcases Nat.lt_trichotomy j m with h|h|h
 ·rw [tb_lo h,tb_lo h,setB_bit]
 ·subst h
  rw [tb_hi hs,tb_hi hl,if_neg om]
 ·have big:∀x:Nat,x<2^m→(x+2^m).testBit j=false:=fun x hx=>Nat.testBit_lt_two_pow (by
   have h1:2^(m+1)≤2^j:=Nat.pow_le_pow_right om h
   have h2:2^(m+1)=2^m+2^m:=by rw [Nat.pow_succ];omega
   omega)
  rw [big s hs,big _ hl,if_neg om]
theorem setB_hi {s m:Nat} (hs:s<2^m):setB s m true=s+2^m∧setB s m false=s∧setB (s+2^m) m true=s+2^m∧setB (s+2^m) m false=s:=by
 have hf:s.testBit m=false:=Nat.testBit_lt_two_pow hs
 have ht:(s+2^m).testBit m=true:=tb_hi hs
 have hx:s^^^2^m=s+2^m:=Nat.eq_of_testBit_eq fun j=>by
  rw [Nat.testBit_xor,Nat.testBit_two_pow]
  rcases Nat.lt_trichotomy j m with h|h|h
  ·rw [tb_lo h,decide_eq_false om,Bool.xor_false]
  ·subst h;rw [ht,hf];simp
  ·have h1:2^(m+1)≤2^j:=Nat.pow_le_pow_right om h
   have h2:2^(m+1)=2^m+2^m:=by rw [Nat.pow_succ];omega
   rw [Nat.testBit_lt_two_pow (show s+2^m<2^j by omega),Nat.testBit_lt_two_pow (show s<2^j by omega),decide_eq_false om];rfl
 have hx2:(s+2^m)^^^2^m=s:=by rw [←hx,Nat.xor_assoc,Nat.xor_self,Nat.xor_zero]
 refine⟨?_,?_,?_,?_⟩<;>unfold setB
 ·rw [if_neg (by rw [hf];simp),hx]
 ·rw [if_pos hf]
 ·rw [if_pos ht]
 ·rw [if_neg (by rw [ht];simp),hx2]
theorem ex_set {p:Nat→Rat} {v:Nat} (b:Bool):∀(m:Nat) (f:Nat→Rat),v<m→exQ (updP p v (if b then 1 else 0)) m f=exQ p m (fun s=>f (setB s v b))
 |0,f,h=>by omega
 |m+1,f,h=>by
  rw [exQ,exQ]
  by_cases e:v=m
  ·subst e
   have e1:∀c g,exQ (updP p v c) v g=exQ p v g:=fun c g=>ex_pcongr v g fun j hj=>by unfold updP;rw [if_neg om]
   rw [e1,e1,show updP p v (if b then 1 else 0) v=if b then 1 else 0 from by unfold updP;rw [if_pos rfl]]
   cases b with
   |true=>
    rw [ex_congr v (fun s=>f (setB s v true)) (fun s=>f (s+2^v)) fun s hs=>by rw [(setB_hi hs).1],ex_congr v (fun s=>f (setB (s+2^v) v true)) (fun s=>f (s+2^v)) fun s hs=>by rw [(setB_hi hs).2.2.1]]
    simp only [if_true]
    grind
   |false=>
    rw [ex_congr v (fun s=>f (setB s v false)) f fun s hs=>by rw [(setB_hi hs).2.1],ex_congr v (fun s=>f (setB (s+2^v) v false)) f fun s hs=>by rw [(setB_hi hs).2.2.2]]
    simp only [Bool.false_eq_true,if_false]
    grind
  ·have hv:v<m:=by omega
   rw [show updP p v (if b then 1 else 0) m=p m from by unfold updP;rw [if_neg (fun x=>e x.symm)],ex_set b m f hv,ex_set b m (fun s=>f (s+2^m)) hv]
   rw [ex_congr m (fun s=>f (setB (s+2^m) v b)) (fun s=>f (setB s v b+2^m)) fun s hs=>by rw [setB_add hs hv]]
end Go.PN

namespace Go.Proofs.YtfcnbgmclfkfcaaGreat
open Go.AI Go.PN
theorem prP_set {p:List RD} {i:Nat} (hi:i<p.length) (r:RD):prP (p.set i r)=updP (prP p) i r.q:=by
 funext j
 unfold prP updP
 by_cases hja:j=i
 ·subst hja
  rw [if_pos rfl,List.getD_eq_getElem?_getD,List.getElem?_set_self hi];rfl
 ·rw [if_neg hja,List.getD_eq_getElem?_getD,List.getElem?_set_ne (fun e=>hja e.symm),←List.getD_eq_getElem?_getD]
theorem wV_one {f:FM} {p:List RD} {i:Nat} (hi:i<p.length):wV f (p.set i (rd 1))=exQ (prP p) p.length fun s=>evB (valF f (setB s i true) f.top):=by
 unfold wV
 rw [List.length_set,prP_set hi,rd_q]
 have t:=ex_set (p:=prP p) (v:=i) true p.length (fun s=>evB (valF f s f.top)) hi
 simp only [if_true] at t
 exact t
theorem wV_zero {f:FM} {p:List RD} {i:Nat} (hi:i<p.length):wV f (p.set i rd0)=exQ (prP p) p.length fun s=>evB (valF f (setB s i false) f.top):=by
 unfold wV
 rw [List.length_set,prP_set hi,rd0_q]
 have t:=ex_set (p:=prP p) (v:=i) false p.length (fun s=>evB (valF f s f.top)) hi
 simp only [Bool.false_eq_true,if_false] at t
 exact t
theorem prP_unit {p:List RD} (hp:∀r∈p,r.prob=true):∀i,i<p.length→0≤prP p i∧prP p i≤1:=fun i hi=>by
 unfold prP
 rw [List.getD_eq_getElem?_getD,List.getElem?_eq_getElem hi]
 exact prob_unit (hp _ (List.getElem_mem hi))
theorem wV_unit {f:FM} {p:List RD} (hp:∀r∈p,r.prob=true):0≤wV f p∧wV f p≤1:=ex_unit _ _ (prP_unit hp) fun _=>evB_unit _
theorem sub_set0 (s i:Nat):Sub (setB s i false) s:=fun j hj=>by
 rw [setB_bit] at hj
 split at hj
 ·cases hj
 ·exact hj
end Go.Proofs.YtfcnbgmclfkfcaaGreat
namespace Go.Proofs.YtfcnbgmclfkfcaaGreat
open Go.AI Go.PN
theorem eachL_get {val:Nat→Rat} {X:Rat} {n i:Nat} (h:i<n):(eachL val X n).getD i rd0=rd (val i/X):=by
 unfold eachL
 rw [List.getD_eq_getElem?_getD]
 simp [h]
theorem div_self_of {X:Rat} (hX:0<X):X/X=1:=by
 rw [Rat.div_def]
 exact Rat.mul_inv_cancel X (fun e=>by rw [e] at hX;exact absurd hX (by decide))
end Go.Proofs.YtfcnbgmclfkfcaaGreat
namespace Go.Proofs.YtfcnbgmclfkfcaaGreat
open Go.AI Go.PN
attribute [local irreducible] aw Fa Fh DrK
noncomputable def validW (f:FM) (p:List RD):Bool:= !largeW f p&&(decide (wcode f p=0)&&decide (0<wV f p))
set_option maxHeartbeats 1600000 in
theorem valid43_fa (f:FM) (p:List RD) (hn:f.nodes.length≤1099511627776) (ha:ArgsOk f) (ht0: -9223372036854775808≤f.top) (ht:f.top≤9223372036854775807) (hw:WordsOk p) (hl:p.length≤1099511627776):Fa Tryz.prog 28 [.agg (fmc false f),.c (rats false p)] (.c (.bool (validW f p))):=by
 refine fa_of_body Tryz.func28 rfl rfl (by simp [Tryz.ntmps28]) fun C hC=> ?_
 simp only [initS,Nat.reduceAdd]
 refine xG ?_
 refine xB fun g2 hn_g2=>?_
 refine yG hn_g2 ?_
 refine yC hn_g2 (large43_fa f p hn ha ht0 ht hl) ?_
 by_cases hL:largeW f p=true
 ·have hv:validW f p=false:=by unfold validW;rw [hL];rfl
  rw [hv,hL]
  refine yGT hC hn_g2 ?_
  exact .one (.c (.bool _))
 have hL':largeW f p=false:=by simpa using hL
 have hs:=ws_of hn ha ht0 ht hw hL'
 rw [hL']
 refine yG hn_g2 ?_
 refine yC hn_g2 (checkR43_fa f p hn ha ht0 ht hs.w5 hl) ?_
 by_cases hc:wcode f p=0
 ·have z:=ieq_t hc
  have hk:=wok_of hc
  have h6:=hs.v6 hk
  have e6:decide (f.vars≤6)=true:=decide_eq_true h6
  have hX:=wV_fits (f:=f) hs.w (by have:=hk.len;omega)
  have h0:=(wV_unit (f:=f) hk.prob).1
  have J1:=oj hn_g2 (oj z e6)
  refine yG J1 ?_
  refine yC J1 (topR_fa (hs.fn hk)) ?_
  refine yG J1 ?_
  refine yC J1 (ssign_fa (rd (wV f p)) (rdw hX ?_)) ?_
  ·omega
  rw [rd_q]
  refine yGT hC J1 ?_
  refine .one (.c (ler_bool ?_))
  unfold validW
  rw [hL',decide_eq_true hc]
  by_cases hx:0<wV f p
  ·rw [sgp hx,decide_eq_true hx];rfl
  ·have:wV f p=0:=by grind
   rw [this];rfl
 ·have z:=ieq_f hc
  have hv:validW f p=false:=by unfold validW;rw [decide_eq_false hc];simp
  rw [hv]
  refine yGT hC (oj hn_g2 z) ?_
  exact .one (.c (.bool _))
theorem vw_of {f:FM} {p:List RD} (h:validW f p=true):largeW f p=false∧wcode f p=0∧0<wV f p:=by
 unfold validW at h
 simp only [Bool.and_eq_true,Bool.not_eq_true',decide_eq_true_eq] at h
 exact h
end Go.Proofs.YtfcnbgmclfkfcaaGreat
namespace Go.Proofs.YtfcnbgmclfkfcaaGreat
open Go.AI Go.PN
theorem val_bits {f:FM} (ok:FrOk f) {s t:Nat} (h:∀j:Nat,(j:Int)<f.vars→s.testBit j=t.testBit j):∀(n:Nat) (a:Int),a.toNat<n→0≤a→a<f.vars+f.nodes.length→valF f s a=valF f t a:=by
 have v0:=ok.v0
 intro n
 induction n with
 |zero=>intro a hn;omega
 |succ n ih=>
  intro a hn h0 h1
  by_cases hv:a<f.vars
  ·rw [val_event hv,val_event hv]
   exact h _ om
  ·obtain⟨i,hi⟩:∃i:Nat,a=f.vars+i:=⟨(a-f.vars).toNat,by omega⟩
   subst hi
   have hi:i<f.nodes.length:=by omega
   rw [val_node ok hi,val_node ok hi]
   refine nodeV_congr fun b hb=> ?_
   obtain⟨b0,b1⟩:=ok.arg i hi b hb
   exact ih b om b0 om
theorem min_lt {f:FM} (ok:FrOk f) {s:Nat} (h:MinT (fun s=>valF f s f.top) s):s<2^f.vars.toNat:=by
 have v0:=ok.v0
 have hb:valF f s f.top=valF f (s%2^f.vars.toNat) f.top:=val_bits ok (fun j hj=>by
  rw [Nat.testBit_mod_two_pow,decide_eq_true om,Bool.true_and]) (f.top.toNat+1) f.top om ok.t0 ok.t1
 have h1:=h.2 (s%2^f.vars.toNat) (fun j hj=>by
  rw [Nat.testBit_mod_two_pow] at hj
  rw [Bool.and_eq_true] at hj
  exact hj.2) (hb.symm.trans h.1)
 have:=Nat.mod_lt s (Nat.two_pow_pos f.vars.toNat)
 omega
theorem cutsF_cut {f:FM} (ok:FrOk f):CutL (fun s=>valF f s f.top) (cutsF f):=by
 unfold cutsF
 rw [form_range]
 refine⟨sort_srt _,fun s=> ?_⟩
 rw [sort_mem]
 unfold solN
 rw [List.mem_filter,List.mem_range]
 constructor
 ·rintro ⟨h1,h2⟩
  exact(least_min h1).1 h2
 ·intro h
  have h1:=min_lt ok h
  exact⟨h1,(least_min h1).2 h⟩
end Go.Proofs.YtfcnbgmclfkfcaaGreat
namespace Go.Proofs.YtfcnbgmclfkfcaaGreat
open Go.AI Go.PN
theorem fits1:fits (1:Rat) 1:=⟨by decide,by decide⟩
structure ValL (L:List RD) (n:Nat) (v:Nat→Rat):Prop where
 len:L.length=n
 get:∀i,i<n→L.getD i rd0=rd (v i)
 fit:∀i,i<n→fits (v i) 24000
theorem eachL_val {val:Nat→Rat} {X:Rat} {n:Nat} (hX:fits X 4000) (hz:X≠0) (hv:∀i,i<n→fits (val i) 20000):ValL (eachL val X n) n fun i=>val i/X:=
 ⟨eachL_len ..,fun i hi=>eachL_get hi,fun i hi=>fits_mono (fits_div (hv i hi) hX hz) om⟩
theorem crit_val {f:FM} {p:List RD} (hw:∀r∈p,r.wf 4) (hv:∀r∈p,r.prob=true) (h6:p.length≤6) (hz:wV f p≠0):ValL (critL f p) p.length fun i=>critV f p i/wV f p:=
 eachL_val (wV_fits hw h6) hz fun i hi=>fits_mono (critV_fits hw hv h6 hi) om
theorem fus_val {f:FM} {p:List RD} (hw:∀r∈p,r.wf 4) (h6:p.length≤6) (hz:wV f p≠0):ValL (fusL f p) p.length fun i=>wF (cutsF f) p i/wV f p:=
 eachL_val (wV_fits hw h6) hz fun i hi=>fits_mono (wF_fits hw h6 i) om
theorem ach_val {f:FM} {p:List RD} (hw:∀r∈p,r.wf 4) (h6:p.length≤6) (hz:wV f p≠0):ValL (achL f p) p.length fun i=>wV f (p.set i (rd 1))/wV f p:=
 eachL_val (wV_fits hw h6) hz fun i hi=>fits_mono (wV1_fits hw h6 i) om
attribute [local irreducible] aw Fa Fh DrK
end Go.Proofs.YtfcnbgmclfkfcaaGreat
