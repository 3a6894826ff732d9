/- Parts of one proof, laid by a program. -/
import Derived.Test.YteocnikcjjonbaaGreatO00
import Derived.Test.YteocnikcjjonbaaGreatO09
set_option linter.unusedSimpArgs false
set_option linter.unusedVariables false
set_option maxRecDepth 100000
set_option maxHeartbeats 12800000
namespace Go.PN
open Go.AI
def digF:Nat→Nat→BS
 |0,_=>[]
 |f+1,n=>if n<10 then [UInt8.ofNat (48+n)] else digF f (n/10)++[UInt8.ofNat (48+n%10)]
theorem quo_i64 (a b:Nat) (ha:a≤4611686018427387904):quoZ .i64 (a:Int) (b:Int)=((a/b:Nat):Int):=by
 rw [quoZ_eq]
 have e:(a:Int).tdiv (b:Int)=((a/b:Nat):Int):=rfl
 have h:=Nat.div_le_self a b
 rw [e]
 generalize a/b=q at*
 exact wrap_i64 om om
theorem dig8 {n:Nat} (h:n<10):(UInt8.ofNat (48+n)).toNat=48+n:=by
 rw [UInt8.toNat_ofNat']
 exact Nat.mod_eq_of_lt (Nat.lt_of_lt_of_le (show 48+n<256 by omega) (by decide))
theorem digF_len:∀(f n:Nat),(digF f n).length≤f
 |0,_=>Nat.le_refl _
 |f+1,n=>by
  unfold digF
  split
  ·simp
  ·have:=digF_len f (n/10)
   rw [List.length_append,List.length_singleton];omega
end Go.PN
namespace Go.Proofs.YteocnikcjjonbaaGreat
open Go.AI Go.PN
attribute [local irreducible] aw Fa Fh DrK
theorem wrap8 {n:Nat} (h:n<256):wrapZ .u8 (n:Int)=n:=by rw [wrapZ_eq];show(n:Int)%256=n;omega
theorem digit1_fa (n:Nat) (h10:n<10):Fa Tryz.prog 18 [.c (.int .i64 n)] (.c (.str (sB [UInt8.ofNat (48+n)]))):=by
 have hw:=wrap8 (n:=n) om
 have h8:=dig8 h10
 refine fa_of_body Tryz.func18 rfl rfl (by simp [Tryz.ntmps18]) fun C hC=> ?_
 simp only [initS,Nat.reduceAdd]
 repeat' first|refine yA1 hw ?_|refine zW hw ?_|refine yP hw ?_|refine yN hw ?_|refine zC hw (fun hb=>?_) fun hb=>?_|refine zG hw (fun hb=>?_) fun hb=>?_|refine zD hw (fun hb=>?_) fun hb=>?_
 ·refine aw_buildSlice (xs:=[.tmp 7]) (cells:=[.int .u8 (48+(n:Int))]) rfl rfl rfl (zE hw) (by refine yS hw ?_;rfl) rfl om om (by intro z hz;simp only [List.mem_singleton] at hz;subst hz;exact⟨rfl,rfl,rfl⟩) rfl fun gw hgw=> ?_
  refine yS hw ?_
  refine aw_pok (POk.bytesStr (el:=5) (m:=1) (f:=ofL [.int .u8 (48+(n:Int))]) [UInt8.ofNat (48+n)] (by kernel_rfl) (by kernel_rfl) (by kernel_rfl) (zE hw) rfl (zE hw) (Nat.le_refl 1) (fun j hj=>by
   match j,hj with
   |0,_=>exact congrArg (CV.int .u8) (by show(48+(n:Int))=((UInt8.ofNat (48+n)).toNat:Int);rw [h8];omega))) rfl rfl ?_
  refine yS hw ?_
  repeat' first|refine yA1 hw ?_|refine zW hw ?_|refine yP hw ?_|refine yN hw ?_|refine zC hw (fun hb=>?_) fun hb=>?_|refine zG hw (fun hb=>?_) fun hb=>?_|refine zD hw (fun hb=>?_) fun hb=>?_
  refine yT hC hw ?_
  exact .one (.c (.str _))
 ·exfalso;omega
theorem digits_fa:∀(f n:Nat),n<10^(f+1)→f≤8→Fa Tryz.prog 18 [.c (.int .i64 n)] (.c (.str (sB (digF (f+1) n)))):=by
 intro f
 induction f with
 |zero=>
  intro n h _
  have h0:n<10:=by simpa using h
  rw [show digF (0+1) n=[UInt8.ofNat (48+n)] from if_pos h0]
  exact digit1_fa n h0
 |succ f ih=>
  intro n h hf
  by_cases h10:n<10
  ·rw [show digF (f+1+1) n=[UInt8.ofNat (48+n)] from if_pos h10]
   exact digit1_fa n h10
  rw [show digF (f+1+1) n=digF (f+1) (n/10)++[UInt8.ofNat (48+n%10)] from if_neg h10]
  have hp:(10:Nat)^(f+1+1)≤10^10:=Nat.pow_le_pow_right (by decide) om
  have hlen:=digF_len (f+1) (n/10)
  have hq:quoZ .i64 (n:Int) 10=((n/10:Nat):Int):=quo_i64 n 10 om
  have hr:remZ (n:Int) 10=((n%10:Nat):Int):=rem_nat n 10
  have f1:=ih (n/10) (by rw [Nat.pow_succ] at h;omega) om
  have hm:=Nat.mod_lt n (show 0<10 from by decide)
  have hw:=wrap8 (n:=n%10) om
  have h8:=dig8 hm
  have hnb:n≤10000000000:=by omega
  generalize digF (f+1) (n/10)=D at*
  generalize n/10=q at*
  generalize n%10=r at*
  refine fa_of_body Tryz.func18 rfl rfl (by simp [Tryz.ntmps18]) fun C hC=> ?_
  simp only [initS,Nat.reduceAdd]
  all_goals try(have Z:=(oj hw (oj hq hr));(repeat' first|refine yA1 Z ?_|refine zW Z ?_|refine yP Z ?_|refine yN Z ?_|refine zC Z (fun hb=>?_) fun hb=>?_|refine zG Z (fun hb=>?_) fun hb=>?_|refine zD Z (fun hb=>?_) fun hb=>?_);all_goals clear Z)
  ·exfalso;omega
  refine aw_cw ([]) [(0,0),(1,0),(2,0),(3,0),(4,0),(5,0),(6,0),(7,1),(8,1),(9,0),(10,0)] ty_mixed (by kernel_rfl) eI ?_
  have J1:=oj hw (oj hq hr)
  refine yG J1 ?_
  refine cw_callq rfl f1 rfl rfl rfl (fun _ _=>(zL J1)) ?_
  refine ySG J1 ?_
  refine cw_buildSlice (xs:=[.tmp 16]) (cells:=[.int .u8 (48+(r:Int))]) rfl rfl rfl rfl (zE J1) (by refine yS J1 ?_;rfl) rfl om om (by intro z hz;simp only [List.mem_singleton] at hz;subst hz;exact⟨rfl,rfl,rfl⟩) rfl (by simp [Op.operands]) has0_nil (fun gw hgw=> ?_)
  refine yS J1 ?_
  refine cw_pokP rfl (POk.bytesStr (el:=5) (m:=1) (f:=ofL [.int .u8 (48+(r:Int))]) [UInt8.ofNat (48+r)] (by kernel_rfl) (by kernel_rfl) (by kernel_rfl) (zE J1) rfl (zE J1) (Nat.le_refl 1) (fun j hj=>by
   match j,hj with
   |0,_=>exact congrArg (CV.int .u8) (by show(48+(r:Int))=((UInt8.ofNat (48+r)).toNat:Int);rw [h8];omega))) rfl rfl has0_nil ?_
  refine ySG J1 ?_
  refine yT hC J1 ?_
  exact .one (.c (.str _))
end Go.Proofs.YteocnikcjjonbaaGreat
namespace Go.PN
open Go.AI
theorem natB_app1 (a:BS) (x:UInt8):natB (a++[x])=natB a*10+(x.toNat-48):=by unfold natB;rw [List.foldl_append];rfl
theorem digF_ok:∀(f n:Nat),n<10^(f+1)→natB (digF (f+1) n)=n∧0<(digF (f+1) n).length∧∀i,i<(digF (f+1) n).length→isDig (bAt (digF (f+1) n) i)=true:=by
 have h1:∀n,n<10→natB [UInt8.ofNat (48+n)]=n∧0<[UInt8.ofNat (48+n)].length∧∀i,i<[UInt8.ofNat (48+n)].length→isDig (bAt [UInt8.ofNat (48+n)] i)=true:=fun n h=>by
  have h8:=dig8 h
  refine⟨?_,by simp,fun i hi=> ?_⟩
  ·show 0*10+((UInt8.ofNat (48+n)).toNat-48)=n
   omega
  ·have:i=0:=by simpa using hi
   subst this
   show isDig (UInt8.ofNat (48+n)).toNat=true
   rw [h8]
   unfold isDig
   simp;omega
 intro f
 induction f with
 |zero=>
  intro n h
  have h0:n<10:=by simpa using h
  rw [show digF (0+1) n=[UInt8.ofNat (48+n)] from if_pos h0]
  exact h1 n h0
 |succ f ih=>
  intro n h
  by_cases h10:n<10
  ·rw [show digF (f+1+1) n=[UInt8.ofNat (48+n)] from if_pos h10]
   exact h1 n h10
  rw [show digF (f+1+1) n=digF (f+1) (n/10)++[UInt8.ofNat (48+n%10)] from if_neg h10]
  obtain⟨i1,i2,i3⟩:=ih (n/10) (by rw [Nat.pow_succ] at h;omega)
  have hm:=Nat.mod_lt n (show 0<10 from by decide)
  have h8:=dig8 hm
  refine⟨?_,by rw [List.length_append];omega,fun i hi=> ?_⟩
  ·rw [natB_app1,i1,h8];omega
  ·rw [List.length_append,List.length_singleton] at hi
   by_cases e:i<(digF (f+1) (n/10)).length
   ·rw [bAt_left e];exact i3 i e
   ·have e2:i=(digF (f+1) (n/10)).length:=by omega
    rw [e2,bAt_app0]
    show isDig (UInt8.ofNat (48+n%10)).toNat=true
    rw [h8]
    unfold isDig
    simp;omega
theorem num_digs {s:BS} (h0:0<s.length) (hd:∀i,i<s.length→isDig (bAt s i)=true) (hl:s.length≤100):valC s=0∧valR s=rd (natB s:Rat):=by
 have hs:spanE isDig s 0=s.length:=by
  have:=span_eq (p:=isDig) (l:=s) s.length 0 (fun j _ b=>hd j om) om (fun z=>by omega)
  omega
 have hn:isNum s=true:=by
  unfold isNum numE
  rw [hs,hd 0 h0,if_neg (fun z=>by omega)]
  simp [h0]
 obtain⟨x1,x2⟩:=ix_all hd
 have hc:valC s=0:=by
  unfold valC
  rw [if_neg om,hn,if_neg (by simp),if_neg om]
 refine⟨hc,?_⟩
 unfold valR valQ
 rw [if_pos hc,if_neg om,x2,List.take_length,List.drop_of_length_le om,List.append_nil]
 congr 1
 simp
 grind
abbrev digC (c:Nat):BS:=digF 6 c
theorem digC_ok {c:Nat} (h:c≤65535):LexOk ⟨1,digC c⟩∧valC (digC c)=0∧valR (digC c)=rd (c:Rat)∧(digC c).length≤6:=by
 obtain⟨i1,i2,i3⟩:=digF_ok 5 c om
 have hl:(digF (5+1) c).length≤6:=digF_len 6 c
 obtain⟨n1,n2⟩:=num_digs i2 i3 om
 refine⟨.num rfl i2 (i3 0 i2) (.all i3),n1,?_,hl⟩
 rw [n2,i1]
theorem whole_digs {c:Nat} (h:c≤65535) (r:List TK):wholeS ⟨⟨1,digC c⟩::r,0⟩=((c:Int),⟨r,0⟩):=by
 obtain⟨_,h1,h2,_⟩:=digC_ok h
 have hn:numS ⟨⟨1,digC c⟩::r,0⟩=(rd (c:Rat),⟨r,0⟩):=by
  unfold numS
  rw [take_cons (s:=⟨⟨1,digC c⟩::r,0⟩) rfl rfl]
  show(if(0:Int)=0 then(valR (digC c),if valC (digC c)=0 then(⟨r,0⟩:PS) else⟨r,valC (digC c)⟩) else(rd0,⟨r,0⟩))=_
  rw [if_pos rfl,if_pos h1,h2]
 unfold wholeS
 rw [hn]
 have hq:intQ (rd (c:Rat)).q=some (c:Int):=by
  have e1:((c:Nat):Rat).num=(c:Int):=Rat.num_natCast c
  have e2:((c:Nat):Rat).den=1:=Rat.den_natCast c
  rw [rd_q]
  unfold intQ
  rw [e1,e2]
  have b1:(-9223372036854775808:Int)≤(c:Int):=by omega
  have b2:(c:Int)≤9223372036854775807:=by omega
  exact if_pos ⟨rfl,b1,b2⟩
 dsimp only
 rw [if_pos rfl,hq]
 dsimp only
 rw [if_pos ⟨by omega,by omega⟩]
def nmO (n:Nat):BS:=[101,UInt8.ofNat (97+n/16),UInt8.ofNat (97+n%16)]
def evX (e:Nat×Nat):BS:=[32,101,118,101,110,116,32]++nmO e.1++[32,99,111,115,116,32]++digC e.2++[32,112,32,49,47,50,59]
def ordX (E:List (Nat×Nat)):BS:=[109,111,100,101,108,32,109,59]++E.flatMap evX
def evD (e:Nat×Nat):List TK:=[⟨0,kEvent⟩,⟨0,nmO e.1⟩,⟨0,kCost⟩,⟨1,digC e.2⟩,⟨0,kP⟩,⟨1,[49,47,50]⟩,⟨2,kSemi⟩]
def ordD (E:List (Nat×Nat)):List TK:=[⟨0,kModel⟩,⟨0,[109]⟩,⟨2,kSemi⟩]++E.flatMap evD
theorem nm8 {n:Nat} (h:n<256):(UInt8.ofNat (97+n/16)).toNat=97+n/16∧(UInt8.ofNat (97+n%16)).toNat=97+n%16:=by
 constructor
 ·rw [UInt8.toNat_ofNat'];exact Nat.mod_eq_of_lt (Nat.lt_of_lt_of_le (show 97+n/16<256 by omega) (by decide))
 ·rw [UInt8.toNat_ofNat'];exact Nat.mod_eq_of_lt (Nat.lt_of_lt_of_le (show 97+n%16<256 by omega) (by decide))
theorem let_lo {n:Nat} (h1:97≤n) (h2:n≤122):isLet n=true:=by unfold isLet;simp;omega
theorem nmO_at {n:Nat} (h:n<256):∀j,j<3→isLet (bAt (nmO n) j)=true
 |0,_=>rfl
 |1,_=>let_lo (by show 97≤(UInt8.ofNat (97+n/16)).toNat;rw [(nm8 h).1];omega) (by show(UInt8.ofNat (97+n/16)).toNat≤122;rw [(nm8 h).1];omega)
 |2,_=>let_lo (by show 97≤(UInt8.ofNat (97+n%16)).toNat;rw [(nm8 h).2];omega) (by show(UInt8.ofNat (97+n%16)).toNat≤122;rw [(nm8 h).2];omega)
 |j+3,hj=>absurd hj om
theorem nmO_ok {n:Nat} (h:n<256):LexOk ⟨0,nmO n⟩:=.word rfl (show 0<3 by decide) (show 3≤24 by decide) (nmO_at h 0 (by decide)) fun j hj=>(let_cls (nmO_at h j hj)).2.2
theorem nmO_inj {a b:Nat} (ha:a<256) (hb:b<256) (h:nmO a=nmO b):a=b:=by
 have h1:=congrArg (fun l=>bAt l 1) h
 have h2:=congrArg (fun l=>bAt l 2) h
 have h1:(UInt8.ofNat (97+a/16)).toNat=(UInt8.ofNat (97+b/16)).toNat:=h1
 have h2:(UInt8.ofNat (97+a%16)).toNat=(UInt8.ofNat (97+b%16)).toNat:=h2
 rw [(nm8 ha).1,(nm8 hb).1] at h1
 rw [(nm8 ha).2,(nm8 hb).2] at h2
 omega
theorem word_ok {w:BS} (h0:0<w.length) (h1:w.length≤24) (h2:isLet (bAt w 0)=true) (h3:∀j,j<w.length→isIns (bAt w j)=true):LexOk ⟨0,w⟩:=.word rfl h0 h1 h2 h3
theorem lx_tb {t:TK} {l:BS} {ts:List TK} (h:LexOk t) (hl:Lx l ts):Lx (t.text++32::l) (t::ts):=.tok t _ ts h (.inr ⟨rfl,fun h=>absurd (show(32:Nat)=47 from h) (by decide)⟩) (.blank 32 l ts rfl hl)
theorem lx_ts {t:TK} {l:BS} {ts:List TK} (h:LexOk t) (he:endB l) (hl:Lx l ts):Lx (t.text++59::l) (t::⟨2,kSemi⟩::ts):=.tok t _ _ h (.inr ⟨rfl,fun h=>absurd (show(59:Nat)=47 from h) (by decide)⟩) (.tok ⟨2,kSemi⟩ l ts (.sgn rfl rfl rfl) he hl)
theorem evX_lx {e:Nat×Nat} (h1:e.1<256) (h2:e.2≤65535) {l:BS} {ts:List TK} (he:endB l) (hl:Lx l ts):Lx (evX e++l) (evD e++ts):=by
 have a1:Lx ([49,47,50]++59::l) (⟨1,[49,47,50]⟩::⟨2,kSemi⟩::ts):=lx_ts (t:=⟨1,[49,47,50]⟩) (.num rfl (by decide) (by decide) (.two 1 (by decide) (.inr rfl) (by decide) (fun i h1 h2=>by
  have h3:i<3:=h2
  have:i=2:=by omega
  subst this;rfl))) he hl
 have a2:=lx_tb (t:=⟨0,kP⟩) (word_ok (by decide) (by decide) (by decide) (by decide)) a1
 have a3:=lx_tb (t:=⟨1,digC e.2⟩) (digC_ok h2).1 a2
 have a4:=lx_tb (t:=⟨0,kCost⟩) (word_ok (by decide) (by decide) (by decide) (by decide)) a3
 have a5:=lx_tb (t:=⟨0,nmO e.1⟩) (nmO_ok h1) a4
 have a6:=lx_tb (t:=⟨0,kEvent⟩) (word_ok (by decide) (by decide) (by decide) (by decide)) a5
 have a7:=Lx.blank 32 _ _ rfl a6
 have e1:evX e++l=32::(kEvent++32::(nmO e.1++32::(kCost++32::(digC e.2++32::(kP++32::([49,47,50]++59::l)))))):=by
  unfold evX
  simp
 rw [e1]
 exact a7
theorem evX_head (e:Nat×Nat) (l:BS):endB (evX e++l):=.inr ⟨rfl,fun h=>absurd (show(32:Nat)=47 from h) (by decide)⟩
theorem flat_lx:∀{E:List (Nat×Nat)},(∀e∈E,e.1<256∧e.2≤65535)→∀{l:BS} {ts:List TK},endB l→Lx l ts→Lx (E.flatMap evX++l) (E.flatMap evD++ts)∧endB (E.flatMap evX++l)
 |[],_,l,ts,he,hl=>⟨hl,he⟩
 |e::E,h,l,ts,he,hl=>by
  obtain⟨h1,h2⟩:=h e List.mem_cons_self
  obtain⟨i1,i2⟩:=flat_lx (fun x hx=>h x (List.mem_cons_of_mem _ hx)) he hl
  rw [List.flatMap_cons,List.flatMap_cons,List.append_assoc,List.append_assoc]
  exact⟨evX_lx h1 h2 i2 i1,evX_head e _⟩
theorem ordX_lx {E:List (Nat×Nat)} (h:∀e∈E,e.1<256∧e.2≤65535) {n:Nat} (hn:n<256):Lx (ordX E++[32,116,111,112,32]++nmO n++[59]) (ordD E++[⟨0,kTop⟩,⟨0,nmO n⟩,⟨2,kSemi⟩]):=by
 have b1:Lx (nmO n++[59]) [⟨0,nmO n⟩,⟨2,kSemi⟩]:=lx_ts (t:=⟨0,nmO n⟩) (nmO_ok hn) (.inl rfl) .nil
 have b2:=lx_tb (t:=⟨0,kTop⟩) (word_ok (by decide) (by decide) (by decide) (by decide)) b1
 have b3:=Lx.blank 32 _ _ rfl b2
 obtain⟨b4,b5⟩:=flat_lx h (l:=32::(kTop++32::(nmO n++[59]))) (.inr ⟨rfl,fun h=>absurd (show(32:Nat)=47 from h) (by decide)⟩) b3
 have b6:=lx_ts (t:=⟨0,[109]⟩) (word_ok (by decide) (by decide) (by decide) (by decide)) b5 b4
 have b7:=lx_tb (t:=⟨0,kModel⟩) (word_ok (by decide) (by decide) (by decide) (by decide)) b6
 have e1:ordX E++[32,116,111,112,32]++nmO n++[59]=kModel++32::([109]++59::(E.flatMap evX++32::(kTop++32::(nmO n++[59])))):=by
  unfold ordX
  simp
 have e2:ordD E++[⟨0,kTop⟩,⟨0,nmO n⟩,⟨2,kSemi⟩]=(⟨0,kModel⟩:TK)::⟨0,[109]⟩::⟨2,kSemi⟩::(E.flatMap evD++[⟨0,kTop⟩,⟨0,nmO n⟩,⟨2,kSemi⟩]):=by
  unfold ordD
  simp
 rw [e1,e2]
 exact b7
end Go.PN
namespace Go.PN
open Go.AI
def evOf (e:Nat×Nat):EvD:=⟨nmO e.1,rd (1/2),rd0,rd0,(e.2:Int)⟩
def mdOf (E:List (Nat×Nat)) (n:Nat):MdD:=⟨[109],nmO n,E.map evOf,[],[],[],[],[]⟩
theorem evO_cost {e:Nat×Nat} (h:e.2≤65535) (x:EvD) (r:List TK):evB ([],x) ⟨⟨0,kCost⟩::⟨1,digC e.2⟩::r,0⟩=(([kCost],{x with cost:=(e.2:Int)}),⟨r,0⟩):=by
 have hw:=whole_digs h r
 have h1:evB ([],x) ⟨⟨0,kCost⟩::⟨1,digC e.2⟩::r,0⟩=(([kCost],{x with cost:=(wholeS ⟨⟨1,digC e.2⟩::r,0⟩).1}),(wholeS ⟨⟨1,digC e.2⟩::r,0⟩).2):=rfl
 rw [h1,hw]
theorem half_ok:valC [49,47,50]=0∧valR [49,47,50]=rd (1/2):=by constructor<;>decide+kernel
theorem evO_p (x:EvD) (r:List TK):evB ([kCost],x) ⟨⟨0,kP⟩::⟨1,[49,47,50]⟩::r,0⟩=(([kP,kCost],{x with p:=rd (1/2)}),⟨r,0⟩):=by
 have hn:numS ⟨⟨1,[49,47,50]⟩::r,0⟩=(rd (1/2),⟨r,0⟩):=by
  unfold numS
  rw [take_cons (s:=⟨⟨1,[49,47,50]⟩::r,0⟩) rfl rfl]
  show(if(0:Int)=0 then(valR [49,47,50],if valC [49,47,50]=0 then(⟨r,0⟩:PS) else⟨r,valC [49,47,50]⟩) else(rd0,⟨r,0⟩))=_
  rw [if_pos rfl,if_pos half_ok.1,half_ok.2]
 have h1:evB ([kCost],x) ⟨⟨0,kP⟩::⟨1,[49,47,50]⟩::r,0⟩=(([kP,kCost],{x with p:=(numS ⟨⟨1,[49,47,50]⟩::r,0⟩).1}),(numS ⟨⟨1,[49,47,50]⟩::r,0⟩).2):=rfl
 rw [h1,hn]
theorem event_rd {e:Nat×Nat} (h:e.2≤65535) (r:List TK):eventS ⟨⟨0,nmO e.1⟩::⟨0,kCost⟩::⟨1,digC e.2⟩::⟨0,kP⟩::⟨1,[49,47,50]⟩::⟨2,kSemi⟩::r,0⟩=(evOf e,⟨r,0⟩):=by
 have hd:∀(a:List BS×EvD) (s:PS),s.e=0→(!isS s kSemi)=true→mS (evB a s).2<mS s:=fun a s e _=>con_evB a s e
 have l1:lpS (fun s=> !isS s kSemi) evB ([],{ev0 with name:=nmO e.1}) ⟨⟨0,kCost⟩::⟨1,digC e.2⟩::⟨0,kP⟩::⟨1,[49,47,50]⟩::⟨2,kSemi⟩::r,0⟩=(([kP,kCost],⟨nmO e.1,rd (1/2),rd0,rd0,(e.2:Int)⟩),⟨⟨2,kSemi⟩::r,0⟩):=by
  rw [lpS_step hd rfl rfl,evO_cost h]
  rw [lpS_step hd rfl rfl,evO_p]
  rw [lpS_end (fun z=>absurd (show false=true from z.2) (by decide))]
 have l2:eventS ⟨⟨0,nmO e.1⟩::⟨0,kCost⟩::⟨1,digC e.2⟩::⟨0,kP⟩::⟨1,[49,47,50]⟩::⟨2,kSemi⟩::r,0⟩=((lpS (fun s=> !isS s kSemi) evB ([],{ev0 with name:=nmO e.1}) ⟨⟨0,kCost⟩::⟨1,digC e.2⟩::⟨0,kP⟩::⟨1,[49,47,50]⟩::⟨2,kSemi⟩::r,0⟩).1.2,expS kSemi (lpS (fun s=> !isS s kSemi) evB ([],{ev0 with name:=nmO e.1}) ⟨⟨0,kCost⟩::⟨1,digC e.2⟩::⟨0,kP⟩::⟨1,[49,47,50]⟩::⟨2,kSemi⟩::r,0⟩).2):=rfl
 rw [l2,l1]
 rfl
theorem stB_ev {e:Nat×Nat} (h:e.2≤65535) (m:MdD) (r:List TK):stB m ⟨evD e++r,0⟩=({m with events:=m.events++[evOf e]},⟨r,0⟩):=by
 have h1:stB m ⟨evD e++r,0⟩=({m with events:=m.events++[(eventS ⟨⟨0,nmO e.1⟩::⟨0,kCost⟩::⟨1,digC e.2⟩::⟨0,kP⟩::⟨1,[49,47,50]⟩::⟨2,kSemi⟩::r,0⟩).1]},(eventS ⟨⟨0,nmO e.1⟩::⟨0,kCost⟩::⟨1,digC e.2⟩::⟨0,kP⟩::⟨1,[49,47,50]⟩::⟨2,kSemi⟩::r,0⟩).2):=rfl
 rw [h1,event_rd h]
theorem loop_ev:∀(E:List (Nat×Nat)) (m:MdD) (r:List TK),(∀e∈E,e.2≤65535)→lpS (fun s=> !isS s kTop) stB m ⟨E.flatMap evD++⟨0,kTop⟩::r,0⟩=({m with events:=m.events++E.map evOf},⟨⟨0,kTop⟩::r,0⟩)
 |[],m,r,_=>by
  rw [List.flatMap_nil,List.nil_append,lpS_end (fun z=>absurd (show false=true from z.2) (by decide))]
  simp
 |e::E,m,r,h=>by
  rw [List.flatMap_cons,List.append_assoc,lpS_step (fun a s e _=>con_stB a s e) rfl rfl,stB_ev (h e List.mem_cons_self),loop_ev E _ r fun x hx=>h x (List.mem_cons_of_mem _ hx)]
  simp
theorem ord_read {E:List (Nat×Nat)} (h:∀e∈E,e.2≤65535) (n:Nat):readS ⟨ordD E++[⟨0,kTop⟩,⟨0,nmO n⟩,⟨2,kSemi⟩],0⟩=(mdOf E n,⟨[],0⟩):=by
 have h1:readS ⟨ordD E++[⟨0,kTop⟩,⟨0,nmO n⟩,⟨2,kSemi⟩],0⟩=rdK (lpS (fun s=> !isS s kTop) stB {md0 with name:=[109]} ⟨E.flatMap evD++[⟨0,kTop⟩,⟨0,nmO n⟩,⟨2,kSemi⟩],0⟩).1 (lpS (fun s=> !isS s kTop) stB {md0 with name:=[109]} ⟨E.flatMap evD++[⟨0,kTop⟩,⟨0,nmO n⟩,⟨2,kSemi⟩],0⟩).2:=rfl
 rw [h1,loop_ev E _ _ h]
 rfl
theorem frst_all {α:Type} {f:Nat→α→Int} (d:α):∀(l:List α) (i:Nat),(∀j,j<l.length→f (i+j) (l.getD j d)=0)→frst f l i=0
 |[],_,_=>rfl
 |x::l,i,h=>by
  have h0:f i x=0:=by simpa using h 0 (by simp)
  have ih:=frst_all d l (i+1) fun j hj=>by
   have:=h (j+1) (by simpa using hj)
   rw [show i+1+j=i+(j+1) from by omega]
   simpa using this
  unfold frst
  rw [if_pos h0,ih]
theorem nm_ok {n:Nat} (h:n<256):nameOk (nmO n)=true:=by
 have hs:spanE isIns (nmO n) 0=3:=by
  have:=span_eq (p:=isIns) (l:=nmO n) 3 0 (fun j _ b=>(let_cls (nmO_at h j om)).2.2) (show 0+3≤3 by decide) (fun z=>absurd (show 0+3<3 from z) (by decide))
  simpa using this
 unfold nameOk
 rw [hs]
 rfl
theorem half_prob:(rd (1/2:Rat)).prob=true:=by decide+kernel
theorem rate_zero:rateB rd0=true:=by decide+kernel
theorem evI_of {E:List (Nat×Nat)} {n:Nat} (hn:(E.map Prod.fst).Nodup) (hb:∀e∈E,e.1<256) {i:Nat} (hi:i<E.length):evI (mdOf E n) (nmO (E.getD i (0,0)).1)=i:=by
 have hE:∀j,j<E.length→(E.map evOf).getD j ev0=evOf (E.getD j (0,0)):=fun j hj=>by
  rw [List.getD_eq_getElem?_getD,List.getD_eq_getElem?_getD,List.getElem?_map,List.getElem?_eq_getElem hj];rfl
 have hm:∀j,j<E.length→E.getD j (0,0)∈E:=fun j hj=>by
  rw [List.getD_eq_getElem?_getD,List.getElem?_eq_getElem hj];exact List.getElem_mem hj
 refine fidx_at ev0 (show i<(E.map evOf).length by rw [List.length_map];exact hi) ?_ fun j hj=> ?_
 ·show((E.map evOf).getD i ev0).name==_
  rw [hE i hi]
  exact beq_self_eq_true _
 ·show(((E.map evOf).getD j ev0).name==nmO (E.getD i (0,0)).1)=false
  rw [hE j om]
  refine beq_eq_false_iff_ne.2 fun e=> ?_
  have e2:=nmO_inj (hb _ (hm j om)) (hb _ (hm i hi)) e
  have h1:(E.map Prod.fst)[j]'(by rw [List.length_map];omega)=(E.map Prod.fst)[i]'(by rw [List.length_map];omega):=by
   rw [List.getElem_map,List.getElem_map]
   rw [List.getD_eq_getElem?_getD,List.getElem?_eq_getElem (show j<E.length by omega),List.getD_eq_getElem?_getD,List.getElem?_eq_getElem hi] at e2
   exact e2
  have a1:=hn.idxOf_getElem j (by rw [List.length_map];omega)
  have a2:=hn.idxOf_getElem i (by rw [List.length_map];omega)
  rw [h1,a2] at a1
  omega
theorem ord_ck {E:List (Nat×Nat)} (hn:(E.map Prod.fst).Nodup) (hb:∀e∈E,e.1<256∧e.2≤65535) (hl:E.length≤20) {i:Nat} (hi:i<E.length):mcC (mdOf E (E.getD i (0,0)).1)=0:=by
 have hb1:=fun e he=>(hb e he).1
 have hm:∀j,j<E.length→E.getD j (0,0)∈E:=fun j hj=>by
  rw [List.getD_eq_getElem?_getD,List.getElem?_eq_getElem hj];exact List.getElem_mem hj
 generalize hn0:(E.getD i (0,0)).1=n
 have hE:∀j,j<E.length→(E.map evOf).getD j ev0=evOf (E.getD j (0,0)):=fun j hj=>by
  rw [List.getD_eq_getElem?_getD,List.getD_eq_getElem?_getD,List.getElem?_map,List.getElem?_eq_getElem hj];rfl
 have h1:evhC (mdOf E n)=0:=by
  unfold evhC
  rw [if_neg (show¬(mdOf E n).events.length>24 by show¬(E.map evOf).length>24;rw [List.length_map];omega)]
  refine orC_0.2 ⟨?_,rfl⟩
  refine frst_all ev0 _ _ fun j hj=> ?_
  have hj':j<E.length:=by
   have:j<(E.map evOf).length:=hj
   rwa [List.length_map] at this
  show evC (mdOf E n) (0+j) ((E.map evOf).getD j ev0)=0
  rw [hE j hj',Nat.zero_add]
  obtain⟨c1,c2⟩:=hb _ (hm j hj')
  unfold evC
  rw [if_neg (by rw [show(evOf (E.getD j (0,0))).name=nmO (E.getD j (0,0)).1 from rfl,nm_ok c1];decide),if_neg (by rw [show(evOf (E.getD j (0,0))).name=nmO (E.getD j (0,0)).1 from rfl,evI_of hn hb1 hj'];omega),if_neg]
  rintro (z|z|z|z|z)
  ·rw [show(evOf (E.getD j (0,0))).p=rd (1/2) from rfl,half_prob] at z;cases z
  ·rw [show(evOf (E.getD j (0,0))).fail=rd0 from rfl,rate_zero] at z;cases z
  ·rw [show(evOf (E.getD j (0,0))).rep=rd0 from rfl,rate_zero] at z;cases z
  ·rw [show(evOf (E.getD j (0,0))).cost=((E.getD j (0,0)).2:Int) from rfl] at z;omega
  ·rw [show(evOf (E.getD j (0,0))).cost=((E.getD j (0,0)).2:Int) from rfl] at z;omega
 have h2:isInp (mdOf E n) 0 (nmO n)=true:=by
  unfold isInp
  rw [if_neg (fun z=>absurd (show(101:Nat)=64 from z.2) (by decide))]
  have:=evI_of (n:=n) hn hb1 hi
  rw [hn0] at this
  rw [this]
  simp
 rw [mcC_eq,h1,show isInp (mdOf E n) 0 (mdOf E n).top=true from h2]
 rfl
theorem ord_model {E:List (Nat×Nat)} (hn:(E.map Prod.fst).Nodup) (hb:∀e∈E,e.1<256∧e.2≤65535) (hl:E.length≤20) {i:Nat} (hi:i<E.length) (ht:(ordX E++[32,116,111,112,32]++nmO (E.getD i (0,0)).1++[59]).length≤65536):
  modelP mcC (ordX E++[32,116,111,112,32]++nmO (E.getD i (0,0)).1++[59])=(mdOf E (E.getD i (0,0)).1,0):=by
 have hm:E.getD i (0,0)∈E:=by rw [List.getD_eq_getElem?_getD,List.getElem?_eq_getElem hi];exact List.getElem_mem hi
 have hs:=splitS_lx (ordX_lx hb (hb _ hm).1) ht
 have hr:=ord_read (fun e he=>(hb e he).2) (E.getD i (0,0)).1
 have hc:=ord_ck hn hb hl hi
 unfold modelP
 rw [hs]
 dsimp only
 rw [if_neg (by decide),hr,if_neg (fun z=>z rfl),hc,if_neg (fun z=>z rfl)]
theorem evX_len (e:Nat×Nat):(evX e).length≤40:=by
 have:=digF_len 6 e.2
 unfold evX
 simp only [List.length_append]
 show 7+3+6+(digF 6 e.2).length+7≤40
 omega
theorem ordX_len:∀E:List (Nat×Nat),(ordX E).length≤8+40*E.length:=by
 intro E
 unfold ordX
 rw [List.length_append]
 have:(E.flatMap evX).length≤40*E.length:=by
  induction E with
  |nil=>exact Nat.le_refl _
  |cons e E ih=>
   have:=evX_len e
   rw [List.flatMap_cons,List.length_append,List.length_cons]
   omega
 show 8+_≤_
 omega
theorem ordX_snoc (E:List (Nat×Nat)) (e:Nat×Nat):ordX (E++[e])=ordX E++evX e:=by unfold ordX;rw [List.flatMap_append];simp
end Go.PN
namespace Go.PN
open Go.AI
abbrev nsR (k:IntKind) (xs:List Nat):CV:=.row false 1 xs.length fun j=>.int k (xs.getD j 0:Nat)
structure OrOk (E:List (Nat×Nat)) (seen:List Bool):Prop where
 nd:(E.map Prod.fst).Nodup
 bd:∀e∈E,e.1<256∧e.2≤65535
 len:seen.length=256
 mem:∀n,n<256→(seen.getD n false=true↔n∈E.map Prod.fst)
theorem OrOk.push {E:List (Nat×Nat)} {seen:List Bool} (h:OrOk E seen) {n c:Nat} (hn:n<256) (hc:c≤65535) (hs:seen.getD n false=false):OrOk (E++[(n,c)]) (seen.set n true):=by
 have hni:n∉E.map Prod.fst:=fun z=>by rw [(h.mem n hn).2 z] at hs;cases hs
 refine⟨?_,fun e he=> ?_,by rw [List.length_set];exact h.len,fun k hk=> ?_⟩
 ·rw [List.map_append]
  exact List.nodup_append.2 ⟨h.nd,by simp,fun a ha b hb e=>by simp at hb;exact hni (by rw [←hb,←e];exact ha)⟩
 ·rcases List.mem_append.1 he with q|q
  ·exact h.bd e q
  ·rw [List.mem_singleton.1 q];exact⟨hn,hc⟩
 ·rw [List.map_append,List.mem_append,List.map_singleton,List.mem_singleton]
  by_cases e:k=n
  ·subst e
   rw [List.getD_eq_getElem?_getD,List.getElem?_set_self (by rw [h.len];exact hn)]
   exact⟨fun _=>.inr rfl,fun _=>rfl⟩
  ·rw [List.getD_eq_getElem?_getD,List.getElem?_set_ne (fun z=>e z.symm),←List.getD_eq_getElem?_getD,h.mem k hk]
   exact⟨.inl,fun z=>z.resolve_right e⟩
theorem is_pushO {zs:List Int} {n:Nat} (hn:zs.length=n) (x:Int):∀j,j<(n+1)*1→appF (isF zs) (n*1) (ofL [.int .i64 x]) j=isF (zs++[x]) j:=fun j hj=>by
 subst hn
 unfold appF
 by_cases h:j<zs.length*1
 ·rw [if_pos h]
  show CV.int .i64 (zs.getD j 0)=CV.int .i64 ((zs++[x]).getD j 0)
  rw [List.getD_eq_getElem?_getD,List.getD_eq_getElem?_getD,List.getElem?_append_left om]
 ·have:j=zs.length:=by omega
  subst this
  rw [if_neg h]
  show ofL [CV.int .i64 x] (zs.length-zs.length*1)=CV.int .i64 ((zs++[x]).getD zs.length 0)
  rw [Nat.mul_one,Nat.sub_self,List.getD_eq_getElem?_getD,List.getElem?_append_right (Nat.le_refl _),Nat.sub_self]
  rfl
theorem quo_u8 (a b:Nat) (ha:a<256):quoZ .u8 (a:Int) (b:Int)=((a/b:Nat):Int):=by
 rw [quoZ_eq]
 have e:(a:Int).tdiv (b:Int)=((a/b:Nat):Int):=rfl
 have h:=Nat.div_le_self a b
 rw [e]
 generalize a/b=q at*
 show(q:Int)%256=q
 omega
theorem ofL_rep (c:CV):∀(n j:Nat),j<n→ofL (List.replicate n c) j=c
 |n+1,0,_=>rfl
 |n+1,j+1,h=>ofL_rep c n j om
end Go.PN
namespace Go.Proofs.YteocnikcjjonbaaGreat
open Go.AI Go.PN
attribute [local irreducible] aw Fa Fh DrK
theorem lawPOrder_fa (names costs:List Nat) (hnl:names.length≤1048576) (hcl:costs.length≤1048576) (hnb:∀x∈names,x≤255) (hcb:∀x∈costs,x≤65535):Fa Tryz.prog 7 [.c (nsR .u8 names),.c (nsR .u16 costs)] (.c (.bool true)):=by
 have f0:=awake23_fa
 refine fa_of_body Tryz.func7 rfl rfl (by simp [Tryz.ntmps7]) fun C hC=> ?_
 simp only [initS,Nat.reduceAdd]
 repeat' first|refine yA1 o0 ?_|(refine yC2 o0 (f0) ?_)|(refine yD2 o0 (f0) ?_)|refine zW o0 ?_|refine yP o0 ?_|refine yN o0 ?_|refine zC o0 (fun hb=>?_) fun hb=>?_|refine zG o0 (fun hb=>?_) fun hb=>?_|refine zD o0 (fun hb=>?_) fun hb=>?_
 ·repeat' first|refine yA1 o0 ?_|(refine yC2 o0 (f0) ?_)|(refine yD2 o0 (f0) ?_)|refine zW o0 ?_|refine yP o0 ?_|refine yN o0 ?_|refine zC o0 (fun hb=>?_) fun hb=>?_|refine zG o0 (fun hb=>?_) fun hb=>?_|refine zD o0 (fun hb=>?_) fun hb=>?_
  refine xT hC ?_
  exact .one (.c (.bool _))
 have h20:names.length≤20:=by omega
 repeat' first|refine yA1 o0 ?_|refine zW o0 ?_|refine yP o0 ?_|refine yN o0 ?_|refine zC o0 (fun hb=>?_) fun hb=>?_|refine zG o0 (fun hb=>?_) fun hb=>?_|refine zD o0 (fun hb=>?_) fun hb=>?_
 refine aw_alloc (z:=List.replicate 256 (.bool false)) rfl rfl rfl (by kernel_rfl) fun g8 hn_g8=> ?_
 rw [List.length_replicate]
 refine aw_convR (f':=bsF (List.replicate 256 false)) (fun j hj S w u hr=> ?_) ?_
 ·have e1:bsF (List.replicate 256 false) j=.bool false:=by
   rw [bsF_at,List.getD_eq_getElem?_getD,List.getElem?_replicate,if_pos hj];rfl
  rw [e1]
  rw [ofL_rep _ _ _ hj] at hr
  exact hr
 refine xS ?_
 repeat' first|refine yA1 o0 ?_|refine zW o0 ?_|refine yP o0 ?_|refine yN o0 ?_|refine zC o0 (fun hb=>?_) fun hb=>?_|refine zG o0 (fun hb=>?_) fun hb=>?_|refine zD o0 (fun hb=>?_) fun hb=>?_
 refine aw_lp (fun x:Nat×List (Nat×Nat)×List Bool×Option Nat×Option Nat=>[(1,.c (nsR .u16 costs)),(5,.c (.str (sB (ordX x.2.1)))),(6,.c (gs x.2.2.2.1 1 x.2.1.length)),(7,.c (gs x.2.2.2.2 1 x.2.1.length)),(8,.c (.optr g8 0)),(25,.c (nsR .u8 names)),(26,.c (.int .i64 names.length)),(27,.c (.int .i64 x.1))])
  (fun x=>(g8,.cells 55 256 (bsF x.2.2.1))::(gh x.2.2.2.1 9 x.2.1.length (strsF (x.2.1.map fun e=>nmO e.1))++gh x.2.2.2.2 3 x.2.1.length (isF (x.2.1.map fun e=>(e.2:Int)))))
  (fun x=>x.1≤names.length∧x.2.1.length≤x.1∧OrOk x.2.1 x.2.2.1∧(x.2.2.2.1=none→x.2.1.length=0)∧(x.2.2.2.2=none→x.2.1.length=0)) (fun x=>names.length-x.1) (0,[],List.replicate 256 false,none,none) eB zZ ⟨Nat.zero_le _,Nat.le_refl _,⟨List.nodup_nil,fun _ h=>(by cases h),List.length_replicate,fun n hn=>by
   rw [List.getD_eq_getElem?_getD,List.getElem?_replicate,if_pos hn]
   simp⟩,fun _=>rfl,fun _=>rfl⟩ ?_
 rintro ⟨i,E,seen,og,oc⟩ ⟨hi,hE,ok,hog,hoc⟩
 dsimp only at hi hE ok hog hoc⊢
 have okl:=ok.len
 have hxl:=ordX_len E
 repeat' first|refine yA1 o0 ?_|refine zW o0 ?_|refine yP o0 ?_|refine yN o0 ?_|refine zC o0 (fun hb=>?_) fun hb=>?_|refine zG o0 (fun hb=>?_) fun hb=>?_|refine zD o0 (fun hb=>?_) fun hb=>?_
 ·have hi':=hb
  have hnm:names.getD i 0≤255:=hnb _ (by rw [List.getD_eq_getElem?_getD,List.getElem?_eq_getElem hi'];exact List.getElem_mem hi')
  generalize names.getD i 0=n at*
  refine aw_pok (POk.indexArr (el:=4) (n:=256) (i:=n) (by kernel_rfl) (by kernel_rfl) eE eE om) rfl rfl ?_
  refine xS ?_
  repeat' first|refine yA1 o0 ?_|refine zW o0 ?_|refine yP o0 ?_|refine yN o0 ?_|refine zC o0 (fun hb=>?_) fun hb=>?_|refine zG o0 (fun hb=>?_) fun hb=>?_|refine zD o0 (fun hb=>?_) fun hb=>?_
  ·refine aw_stop ⟨(i+1,E,seen,og,oc),?_⟩
   and_intros
   all_goals first|rfl|exact List.Sublist.refl _|exact True.intro|exact ok|exact hog|exact hoc|(dsimp only;omega)
  have hsn:seen.getD n false=false:=by simpa using hb
  refine aw_pok (POk.indexArr (el:=4) (n:=256) (i:=n) (by kernel_rfl) (by kernel_rfl) eE eE om) rfl rfl ?_
  refine xS ?_
  refine xW ?_
  refine xS ?_
  rw [updF_bs om]
  have hok2:=fun c hc=>ok.push (n:=n) (c:=c) om hc hsn
  generalize seen.set n true=seen2 at*
  clear okl
  have hq:quoZ .u8 (n:Int) 16=((n/16:Nat):Int):=quo_u8 n 16 om
  have hr:remZ (n:Int) 16=((n%16:Nat):Int):=rem_nat n 16
  obtain⟨m1,m2⟩:=nm8 (n:=n) om
  have hq16:n/16≤15:=by omega
  have hr16:n%16≤15:=by omega
  have hN:(ByteArray.mk #[101,UInt8.ofNat (97+n/16),UInt8.ofNat (97+n%16)])=sB (nmO n):=rfl
  all_goals try(have Z:=(oj hq hr);(repeat' first|refine yA1 Z ?_|refine zW Z ?_|refine yP Z ?_|refine yN Z ?_|refine zC Z (fun hb=>?_) fun hb=>?_|refine zG Z (fun hb=>?_) fun hb=>?_|refine zD Z (fun hb=>?_) fun hb=>?_);all_goals clear Z)
  generalize hA:n/16=A at*
  generalize hB:n%16=B at*
  refine aw_buildSlice (xs:=[.tmp 39,.tmp 42]) (cells:=[.int .u8 (97+(A:Int)),.int .u8 (97+(B:Int))]) rfl rfl rfl (zE (oj hq hr)) (by refine yS (oj hq hr) ?_;rfl) rfl om om (by intro z hz;simp only [List.mem_cons,List.not_mem_nil,or_false] at hz;rcases hz with rfl|rfl<;>exact⟨rfl,rfl,rfl⟩) rfl fun gw hgw=> ?_
  have J1:=oj hq hr
  refine yS J1 ?_
  refine aw_pok (POk.bytesStr (el:=5) (m:=2) (f:=ofL [.int .u8 (97+(A:Int)),.int .u8 (97+(B:Int))]) [UInt8.ofNat (97+A),UInt8.ofNat (97+B)] (by kernel_rfl) (by kernel_rfl) (by kernel_rfl) (zE J1) rfl (zE J1) (Nat.le_refl 2) (fun j hj=>by
   match j,hj with
   |0,_=>exact congrArg (CV.int .u8) (by show(97+(A:Int))=((UInt8.ofNat (97+A)).toNat:Int);rw [m1];omega)
   |1,_=>exact congrArg (CV.int .u8) (by show(97+(B:Int))=((UInt8.ofNat (97+B)).toNat:Int);rw [m2];omega))) rfl rfl ?_
  refine yS J1 ?_
  all_goals try(have Z:=(oj hq (oj hr hN));(repeat' first|refine yA1 Z ?_|refine zW Z ?_|refine yP Z ?_|refine yN Z ?_|refine zC Z (fun hb=>?_) fun hb=>?_|refine zG Z (fun hb=>?_) fun hb=>?_|refine zD Z (fun hb=>?_) fun hb=>?_);all_goals clear Z)
  ·have hcl':=hb
   have hc:costs.getD i 0≤65535:=hcb _ (by rw [List.getD_eq_getElem?_getD,List.getElem?_eq_getElem hcl'];exact List.getElem_mem hcl')
   generalize costs.getD i 0=c at*
   have hwc:wrapZ .i64 (c:Int)=c:=by rw [wrapZ_eq,wrap_i64 om om]
   have J2:=oj hq (oj hr (oj hN hwc))
   refine yS J2 ?_
   have hc6:(digC c).length≤6:=digF_len 6 c
   have fd:=digits_fa 5 c om (by decide)
   have fd:Fa Tryz.prog 18 [.c (.int .i64 c)] (.c (.str (sB (digC c)))):=fd
   have l1:([32,101,118,101,110,116,32]++nmO n).length≤10:=by rw [List.length_append];exact Nat.le_refl 10
   have l2:([32,101,118,101,110,116,32]++nmO n++[32,99,111,115,116,32]).length≤16:=by rw [List.length_append];exact Nat.add_le_add_right l1 6
   have l3:([32,101,118,101,110,116,32]++nmO n++[32,99,111,115,116,32]++digC c).length≤22:=by rw [List.length_append];omega
   have l4:([32,101,118,101,110,116,32]++nmO n++[32,99,111,115,116,32]++digC c++[32,112,32,49,47,50,59]).length≤29:=by rw [List.length_append];exact Nat.add_le_add_right l3 7
   have l5:(nmO n).length≤3:=Nat.le_refl 3
   have hX:ordX (E++[(n,c)])=ordX E++([32,101,118,101,110,116,32]++nmO n++[32,99,111,115,116,32]++digC c++[32,112,32,49,47,50,59]):=ordX_snoc E (n,c)
   have b2:(nmO n++[32,99,111,115,116,32]).length≤9:=by rw [List.length_append];exact Nat.le_refl 9
   have b3:(nmO n++[32,99,111,115,116,32]++digC c).length≤15:=by rw [List.length_append];omega
   have b4:(nmO n++[32,99,111,115,116,32]++digC c++[32,112,32,49,47,50,59]).length≤22:=by rw [List.length_append];exact Nat.add_le_add_right b3 7
   simp only [List.cons_append,List.nil_append] at l1 l2 l3 l4 hX
   have hln:(E++[(n,c)]).length=E.length+1:=by rw [List.length_append];rfl
   have hM1:(E++[(n,c)]).map (fun e=>nmO e.1)=E.map (fun e=>nmO e.1)++[nmO n]:=by rw [List.map_append];rfl
   have hM2:(E++[(n,c)]).map (fun e=>(e.2:Int))=E.map (fun e=>(e.2:Int))++[(c:Int)]:=by rw [List.map_append];rfl
   refine aw_perm (h':=((gw,.cells 5 2 (ofL [.int .u8 (97+(A:Int)),.int .u8 (97+(B:Int))]))::(g8,.cells 55 256 (bsF seen2))::gh oc 3 E.length (isF (E.map fun e=>(e.2:Int))))++gh og 9 E.length (strsF (E.map fun e=>nmO e.1))) ((List.perm_append_comm.cons _).cons _) ?_
   refine aw_push (pre:=((gw,.cells 5 2 (ofL [.int .u8 (97+(A:Int)),.int .u8 (97+(B:Int))]))::(g8,.cells 55 256 (bsF seen2))::gh oc 3 E.length (isF (E.map fun e=>(e.2:Int))))) rfl rfl rfl rfl rfl rfl rfl (zE J2) (zE J2) (by rfl) om om (zE J2) om (by exact hog) (zE J2) (by rfl) (by rfl) (by first|rfl|simp only [Nat.mul_one,List.nil_append,List.cons_append]<;>rfl) (by unfold maxLen;omega) om (by exact strs_push (List.length_map ..) (nmO n)) fun gb hn_gb=> ?_
   replace hn_gb:=Heap.ne_of hn_gb
   first|dsimp only [Heap.ne,gh] at hn_gb|dsimp only [Heap.ne] at hn_gb|skip
   have J3:=oj hq (oj hr (oj hN (oj hwc hn_gb)))
   refine yS J3 ?_
   all_goals try(have Z:=J3;(repeat' first|refine yA1 Z ?_|refine zW Z ?_|refine yP Z ?_|refine yN Z ?_|refine zC Z (fun hb=>?_) fun hb=>?_|refine zG Z (fun hb=>?_) fun hb=>?_|refine zD Z (fun hb=>?_) fun hb=>?_);all_goals clear Z)
   refine aw_perm (h':=[(gw,.cells 5 2 (ofL [.int .u8 (97+(A:Int)),.int .u8 (97+(B:Int))])),(g8,.cells 55 256 (bsF seen2)),(gb,.cells 9 (E.length+1) (strsF (E.map (fun e=>nmO e.1)++[nmO n])))]++gh oc 3 E.length (isF (E.map fun e=>(e.2:Int)))) ((List.perm_append_comm.cons _).cons _) ?_
   refine aw_push (pre:=[(gw,.cells 5 2 (ofL [.int .u8 (97+(A:Int)),.int .u8 (97+(B:Int))])),(g8,.cells 55 256 (bsF seen2)),(gb,.cells 9 (E.length+1) (strsF (E.map (fun e=>nmO e.1)++[nmO n])))]) rfl rfl rfl rfl rfl rfl rfl (zE J3) (zE J3) (by rfl) om om (zE J3) om (by exact hoc) (zE J3) (by rfl) (by rfl) (by first|rfl|simp only [Nat.mul_one,List.nil_append,List.cons_append]<;>rfl) (by unfold maxLen;omega) om (by exact is_pushO (List.length_map ..) (c:Int)) fun gd hn_gd=> ?_
   replace hn_gd:=Heap.ne_of hn_gd
   first|dsimp only [Heap.ne,gh] at hn_gd|dsimp only [Heap.ne] at hn_gd|skip
   have J4:=oj hq (oj hr (oj hN (oj hwc (oj hn_gb hn_gd))))
   refine yS J4 ?_
   all_goals try(have Z:=J4;(repeat' first|refine yA1 Z ?_|(refine yC2 Z (fd) ?_)|(refine yD2 Z (fd) ?_)|refine zW Z ?_|refine yP Z ?_|refine yN Z ?_|refine zC Z (fun hb=>?_) fun hb=>?_|refine zG Z (fun hb=>?_) fun hb=>?_|refine zD Z (fun hb=>?_) fun hb=>?_);all_goals clear Z)
   refine aw_stop ⟨(i+1,E++[(n,c)],seen2,some gb,some gd),?_⟩
   dsimp only
   rw [hM1,hM2,hX]
   simp only [hln]
   and_intros
   all_goals first|rfl|exact .cons _ (.refl _)|exact True.intro|exact hok2 c hc|exact some_ne|omega
  ·obtain⟨c,hc0⟩:∃c:Nat,c=0:=⟨0,rfl⟩
   have hc:c≤65535:=by omega
   refine aw_conv (t:=12) (v:=.c (.int .i64 (c:Nat))) (fun S w u hr=>by subst hc0;exact hr) rfl ?_
   have J5:=oj hq (oj hr hN)
   refine yS J5 ?_
   have hc6:(digC c).length≤6:=digF_len 6 c
   have fd:=digits_fa 5 c om (by decide)
   have fd:Fa Tryz.prog 18 [.c (.int .i64 c)] (.c (.str (sB (digC c)))):=fd
   have l1:([32,101,118,101,110,116,32]++nmO n).length≤10:=by rw [List.length_append];exact Nat.le_refl 10
   have l2:([32,101,118,101,110,116,32]++nmO n++[32,99,111,115,116,32]).length≤16:=by rw [List.length_append];exact Nat.add_le_add_right l1 6
   have l3:([32,101,118,101,110,116,32]++nmO n++[32,99,111,115,116,32]++digC c).length≤22:=by rw [List.length_append];omega
   have l4:([32,101,118,101,110,116,32]++nmO n++[32,99,111,115,116,32]++digC c++[32,112,32,49,47,50,59]).length≤29:=by rw [List.length_append];exact Nat.add_le_add_right l3 7
   have l5:(nmO n).length≤3:=Nat.le_refl 3
   have hX:ordX (E++[(n,c)])=ordX E++([32,101,118,101,110,116,32]++nmO n++[32,99,111,115,116,32]++digC c++[32,112,32,49,47,50,59]):=ordX_snoc E (n,c)
   have b2:(nmO n++[32,99,111,115,116,32]).length≤9:=by rw [List.length_append];exact Nat.le_refl 9
   have b3:(nmO n++[32,99,111,115,116,32]++digC c).length≤15:=by rw [List.length_append];omega
   have b4:(nmO n++[32,99,111,115,116,32]++digC c++[32,112,32,49,47,50,59]).length≤22:=by rw [List.length_append];exact Nat.add_le_add_right b3 7
   simp only [List.cons_append,List.nil_append] at l1 l2 l3 l4 hX
   have hln:(E++[(n,c)]).length=E.length+1:=by rw [List.length_append];rfl
   have hM1:(E++[(n,c)]).map (fun e=>nmO e.1)=E.map (fun e=>nmO e.1)++[nmO n]:=by rw [List.map_append];rfl
   have hM2:(E++[(n,c)]).map (fun e=>(e.2:Int))=E.map (fun e=>(e.2:Int))++[(c:Int)]:=by rw [List.map_append];rfl
   refine aw_perm (h':=((gw,.cells 5 2 (ofL [.int .u8 (97+(A:Int)),.int .u8 (97+(B:Int))]))::(g8,.cells 55 256 (bsF seen2))::gh oc 3 E.length (isF (E.map fun e=>(e.2:Int))))++gh og 9 E.length (strsF (E.map fun e=>nmO e.1))) ((List.perm_append_comm.cons _).cons _) ?_
   refine aw_push (pre:=((gw,.cells 5 2 (ofL [.int .u8 (97+(A:Int)),.int .u8 (97+(B:Int))]))::(g8,.cells 55 256 (bsF seen2))::gh oc 3 E.length (isF (E.map fun e=>(e.2:Int))))) rfl rfl rfl rfl rfl rfl rfl (zE J5) (zE J5) (by rfl) om om (zE J5) om (by exact hog) (zE J5) (by rfl) (by rfl) (by first|rfl|simp only [Nat.mul_one,List.nil_append,List.cons_append]<;>rfl) (by unfold maxLen;omega) om (by exact strs_push (List.length_map ..) (nmO n)) fun gb hn_gb=> ?_
   replace hn_gb:=Heap.ne_of hn_gb
   first|dsimp only [Heap.ne,gh] at hn_gb|dsimp only [Heap.ne] at hn_gb|skip
   have J6:=oj hq (oj hr (oj hN hn_gb))
   refine yS J6 ?_
   all_goals try(have Z:=J6;(repeat' first|refine yA1 Z ?_|refine zW Z ?_|refine yP Z ?_|refine yN Z ?_|refine zC Z (fun hb=>?_) fun hb=>?_|refine zG Z (fun hb=>?_) fun hb=>?_|refine zD Z (fun hb=>?_) fun hb=>?_);all_goals clear Z)
   refine aw_perm (h':=[(gw,.cells 5 2 (ofL [.int .u8 (97+(A:Int)),.int .u8 (97+(B:Int))])),(g8,.cells 55 256 (bsF seen2)),(gb,.cells 9 (E.length+1) (strsF (E.map (fun e=>nmO e.1)++[nmO n])))]++gh oc 3 E.length (isF (E.map fun e=>(e.2:Int)))) ((List.perm_append_comm.cons _).cons _) ?_
   refine aw_push (pre:=[(gw,.cells 5 2 (ofL [.int .u8 (97+(A:Int)),.int .u8 (97+(B:Int))])),(g8,.cells 55 256 (bsF seen2)),(gb,.cells 9 (E.length+1) (strsF (E.map (fun e=>nmO e.1)++[nmO n])))]) rfl rfl rfl rfl rfl rfl rfl (zE J6) (zE J6) (by rfl) om om (zE J6) om (by exact hoc) (zE J6) (by rfl) (by rfl) (by first|rfl|simp only [Nat.mul_one,List.nil_append,List.cons_append]<;>rfl) (by unfold maxLen;omega) om (by exact is_pushO (List.length_map ..) (c:Int)) fun gd hn_gd=> ?_
   replace hn_gd:=Heap.ne_of hn_gd
   first|dsimp only [Heap.ne,gh] at hn_gd|dsimp only [Heap.ne] at hn_gd|skip
   have J7:=oj hq (oj hr (oj hN (oj hn_gb hn_gd)))
   refine yS J7 ?_
   all_goals try(have Z:=J7;(repeat' first|refine yA1 Z ?_|(refine yC2 Z (fd) ?_)|(refine yD2 Z (fd) ?_)|refine zW Z ?_|refine yP Z ?_|refine yN Z ?_|refine zC Z (fun hb=>?_) fun hb=>?_|refine zG Z (fun hb=>?_) fun hb=>?_|refine zD Z (fun hb=>?_) fun hb=>?_);all_goals clear Z)
   refine aw_stop ⟨(i+1,E++[(n,c)],seen2,some gb,some gd),?_⟩
   dsimp only
   rw [hM1,hM2,hX]
   simp only [hln]
   and_intros
   all_goals first|rfl|exact .cons _ (.refl _)|exact True.intro|exact hok2 c hc|exact some_ne|omega
 cases og with
 |none=>
  dsimp only [gs,gh]
  repeat' first|refine yA1 o0 ?_|refine zW o0 ?_|refine yP o0 ?_|refine yN o0 ?_|refine zC o0 (fun hb=>?_) fun hb=>?_|refine zG o0 (fun hb=>?_) fun hb=>?_|refine zD o0 (fun hb=>?_) fun hb=>?_
  refine xT hC ?_
  exact .one (.c (.bool _))
 |some g1=>
 cases oc with
 |none=>
  have h0:=hoc rfl
  dsimp only [gs,gh]
  repeat' first|refine yA1 o0 ?_|refine zW o0 ?_|refine yP o0 ?_|refine yN o0 ?_|refine zC o0 (fun hb=>?_) fun hb=>?_|refine zG o0 (fun hb=>?_) fun hb=>?_|refine zD o0 (fun hb=>?_) fun hb=>?_
  ·refine xT hC ?_
   exact .one (.c (.bool _))
  ·exfalso;omega
 |some g2=>
 dsimp only [gs,gh]
 simp only [List.cons_append,List.nil_append]
 refine aw_nd fun hnd=> ?_
 simp only [Heap.keys,List.map_cons,List.map_nil] at hnd
 replace hnd:=ndP_of hnd
 dsimp only [ndP,neA] at hnd
 repeat' first|refine yA1 hnd ?_|refine zW hnd ?_|refine yP hnd ?_|refine yN hnd ?_|refine zC hnd (fun hb=>?_) fun hb=>?_|refine zG hnd (fun hb=>?_) fun hb=>?_|refine zD hnd (fun hb=>?_) fun hb=>?_
 ·refine yT hC hnd ?_
  exact .one (.c (.bool _))
 have hE0:0<E.length:=by omega
 have hE20:E.length≤20:=by omega
 obtain⟨k,hk⟩:∃k,E.length=k+1:=⟨E.length-1,by omega⟩
 have hkE:k<E.length:=by omega
 have hW:∀j,j<E.length→(E.map fun e=>nmO e.1).getD j []=nmO (E.getD j (0,0)).1:=fun j hj=>by
  rw [List.getD_eq_getElem?_getD,List.getD_eq_getElem?_getD,List.getElem?_map,List.getElem?_eq_getElem hj];rfl
 have hwk:=hW k hkE
 have hsub:((E.length:Int)-1)=(k:Int):=by omega
 have l1:(ordX E++[32,116,111,112,32]).length≤1000:=by rw [List.length_append];show _+5≤_;omega
 have l2:(ordX E++[32,116,111,112,32]++nmO (E.getD k (0,0)).1).length≤1003:=by rw [List.length_append];exact Nat.add_le_add_right l1 3
 have l3:(ordX E++[32,116,111,112,32]++nmO (E.getD k (0,0)).1++[59]).length≤1004:=by rw [List.length_append];exact Nat.add_le_add_right l2 1
 have l4:(nmO (E.getD k (0,0)).1).length≤3:=Nat.le_refl 3
 have fp:=pm_fa _ (Nat.le_trans l3 (by decide))
 rw [ord_model ok.nd ok.bd hE20 hkE (Nat.le_trans l3 (by decide))] at fp
 have e0:errA 0=.nilI:=if_pos rfl
 dsimp only at fp
 rw [e0] at fp
 have hml:(E.map evOf).length=E.length:=List.length_map ..
 have hk1:E.length-1=k:=by omega
 all_goals try(have Z:=(oj hnd (oj hsub (oj hk1 hwk)));(repeat' first|refine yA1 Z ?_|(refine yC2 Z (fp) ?_)|(refine yD2 Z (fp) ?_)|refine zW Z ?_|refine yP Z ?_|refine yN Z ?_|refine zC Z (fun hb=>?_) fun hb=>?_|refine zG Z (fun hb=>?_) fun hb=>?_|refine zD Z (fun hb=>?_) fun hb=>?_);all_goals clear Z)
 have t1:(mdOf E (E.getD k (0,0)).1).events.length=E.length:=hml
 have t2:(mdOf E (E.getD k (0,0)).1).top=nmO (E.getD k (0,0)).1:=rfl
 have t3:∀j,j<E.length→(mdOf E (E.getD k (0,0)).1).events.getD j ev0=evOf (E.getD j (0,0)):=fun j hj=>by
  show(E.map evOf).getD j ev0=_
  rw [List.getD_eq_getElem?_getD,List.getD_eq_getElem?_getD,List.getElem?_map,List.getElem?_eq_getElem hj];rfl
 have hCo:∀j,j<E.length→(E.map fun e=>(e.2:Int)).getD j 0=((E.getD j (0,0)).2:Int):=fun j hj=>by
  rw [List.getD_eq_getElem?_getD,List.getD_eq_getElem?_getD,List.getElem?_map,List.getElem?_eq_getElem hj];rfl
 refine yA (oj hnd (oj hsub (oj hk1 hwk))) fun g13 hn_g13=>?_
 all_goals try(have Z:=(oj hnd (oj hsub (oj hk1 (oj hwk hn_g13))));(repeat' first|refine yA1 Z ?_|refine zW Z ?_|refine yP Z ?_|refine yN Z ?_|refine zC Z (fun hb=>?_) fun hb=>?_|refine zG Z (fun hb=>?_) fun hb=>?_|refine zD Z (fun hb=>?_) fun hb=>?_);all_goals clear Z)
 clear fp l1 l2 l3 f0
 generalize mdOf E (E.getD k (0,0)).1=M at*
 refine aw_dr 21 ty_mixed (by kernel_rfl) ?_
 all_goals try(have Z:=(oj hnd (oj hsub (oj hk1 (oj hwk (oj hn_g13 (oj t1 t2))))));(repeat' first|refine yA1 Z ?_|refine zW Z ?_|refine yP Z ?_|refine yN Z ?_|refine zC Z (fun hb=>?_) fun hb=>?_|refine zG Z (fun hb=>?_) fun hb=>?_|refine zD Z (fun hb=>?_) fun hb=>?_);all_goals clear Z)
 ·exfalso;exact hb rfl
 ·exfalso;exact hb rfl
 have hh:RdOk (rd (1/2)):=by
  have h:=valR_ok [49,47,50]
  rw [half_ok.2] at h
  exact h
 have fr:=ratEq_fa (rd (1/2)) rd0 (wf_mono hh (by decide))
 have fr0:decide (rd (1/2:Rat)=rd0)=false:=by decide+kernel
 rw [fr0] at fr
 refine aw_lp (fun j:Nat=>[(6,.c (.osl g1 1 0 E.length)),(7,.c (.osl g2 1 0 E.length)),(112,.c (evs true M.events)),(113,.c (.int .i64 E.length)),(114,.c (.int .i64 j))]) (fun _=>[(g1,.cells 9 E.length (strsF (E.map fun e=>nmO e.1))),(g2,.cells 3 E.length (isF (E.map fun e=>(e.2:Int))))]) (fun j=>j≤E.length) (fun j=>E.length-j) 0 (zB (oj hnd (oj hsub (oj hk1 (oj hwk (oj hn_g13 (oj t1 t2))))))) (.cons _ (.cons _ (.refl _))) (Nat.zero_le _) ?_
 intro j hj
 all_goals try(have Z:=(oj hnd (oj hsub (oj hk1 (oj hwk (oj hn_g13 (oj t1 t2))))));(repeat' first|refine yA1 Z ?_|refine zW Z ?_|refine yP Z ?_|refine yN Z ?_|refine zC Z (fun hb=>?_) fun hb=>?_|refine zG Z (fun hb=>?_) fun hb=>?_|refine zD Z (fun hb=>?_) fun hb=>?_);all_goals clear Z)
 ·have hj':=hb
  have x1:=t3 j hj'
  have x2:=hW j hj'
  have x3:=hCo j hj'
  have y1:(evOf (E.getD j (0,0))).name=nmO (E.getD j (0,0)).1:=rfl
  have y2:(evOf (E.getD j (0,0))).cost=((E.getD j (0,0)).2:Int):=rfl
  have y3:(evOf (E.getD j (0,0))).p=rd (1/2):=rfl
  refine yA (oj hnd (oj hsub (oj hk1 (oj hwk (oj hn_g13 (oj t1 (oj t2 (oj x1 (oj x2 (oj x3 (oj y1 (oj y2 y3)))))))))))) fun g16 hn_g16=>?_
  all_goals try(have Z:=(oj hnd (oj hsub (oj hk1 (oj hwk (oj hn_g13 (oj t1 (oj t2 (oj x1 (oj x2 (oj x3 (oj y1 (oj y2 (oj y3 hn_g16)))))))))))));(repeat' first|refine yA1 Z ?_|refine zW Z ?_|refine yP Z ?_|refine yN Z ?_|refine zC Z (fun hb=>?_) fun hb=>?_|refine zG Z (fun hb=>?_) fun hb=>?_|refine zD Z (fun hb=>?_) fun hb=>?_);all_goals clear Z)
  refine aw_dr 22 ty_mixed (by kernel_rfl) ?_
  all_goals try(have Z:=(oj hnd (oj hsub (oj hk1 (oj hwk (oj hn_g13 (oj t1 (oj t2 (oj x1 (oj x2 (oj x3 (oj y1 (oj y2 (oj y3 hn_g16)))))))))))));(repeat' first|refine yA1 Z ?_|(refine yC2 Z (fr) ?_)|(refine yD2 Z (fr) ?_)|refine zW Z ?_|refine yP Z ?_|refine yN Z ?_|refine zC Z (fun hb=>?_) fun hb=>?_|refine zG Z (fun hb=>?_) fun hb=>?_|refine zD Z (fun hb=>?_) fun hb=>?_);all_goals clear Z)
  all_goals first
   |(exfalso;exact hb rfl)
   |(exfalso;omega)
   |(refine aw_stop ⟨j+1,?_⟩
     and_intros
     all_goals first|rfl|exact .cons _ (.refl _)|exact .refl _|exact True.intro|omega)
 ·refine yT hC (oj hnd (oj hsub (oj hk1 (oj hwk (oj hn_g13 (oj t1 t2)))))) ?_
  exact .one (.c (.bool _))
end Go.Proofs.YteocnikcjjonbaaGreat
namespace Go.Proofs.YteocnikcjjonbaaGreat
open Go.AI Go.PN Go.ChangeShapes Go.WideShapes Go.RowKit
theorem rdr_ns8:Rdr Tryz.prog 46 (fun xs:List Nat=>[nsR .u8 xs]) (fun xs n=>xs.length≤n∧∀x∈xs,x≤255):=
 (rdr_slice (0:Nat) false Tryz.underlying46 (s:=1) (by kernel_rfl) om (fun _ _ _ h _=>h) (rdr_nat8 Tryz.underlying5)).to id (fun ys=>by
  show [CV.row false 1 ys.length _]=[CV.row false 1 ys.length _]
  congr 2
  funext j
  show _=ofL [CV.int .u8 ((ys.getD (j/1) 0:Nat):Int)] (j%1)
  rw [Nat.div_one,Nat.mod_one]
  rfl) (fun _ _ h=>h)
theorem rdr_ns16:Rdr Tryz.prog 53 (fun xs:List Nat=>[nsR .u16 xs]) (fun xs n=>xs.length≤n∧∀x∈xs,x≤65535):=
 (rdr_slice (0:Nat) false Tryz.underlying53 (s:=1) (by kernel_rfl) om (fun _ _ _ h _=>h) (rdr_nat16 Tryz.underlying47)).to id (fun ys=>by
  show [CV.row false 1 ys.length _]=[CV.row false 1 ys.length _]
  congr 2
  funext j
  show _=ofL [CV.int .u16 ((ys.getD (j/1) 0:Nat):Int)] (j%1)
  rw [Nat.div_one,Nat.mod_one]
  rfl) (fun _ _ h=>h)
end Go.Proofs.YteocnikcjjonbaaGreat
