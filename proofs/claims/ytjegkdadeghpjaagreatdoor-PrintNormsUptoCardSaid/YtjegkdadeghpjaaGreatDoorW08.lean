/- Parts of one proof, laid by a program. -/
import Derived.Test.YtjegkdadeghpjaaGreatDoorW00
import Derived.Test.YtjegkdadeghpjaaGreatDoorW07
import Derived.Shelf.Sort.Plain
import Derived.Test.YtjegkdadeghpjaaGreatDoorProg
import Derived.Shelf.SlSortCmp.WholeK
set_option linter.unusedSimpArgs false
set_option linter.unusedVariables false
set_option maxRecDepth 100000
set_option maxHeartbeats 12800000
namespace Go.PN
open Go.AI
theorem Mn:∀(a b:List UInt8),a<b↔Vy a b=true
 |[],[]=>⟨fun h=>absurd h (List.not_lt_nil _),fun h=>by cases h⟩
 |[],_::_=>⟨fun _=>rfl,fun _=>List.nil_lt_cons _ _⟩
 |_::_,[]=>⟨fun h=>absurd h (List.not_lt_nil _),fun h=>by cases h⟩
 |x::a,y::b=>by
  rw [List.cons_lt_cons_iff,Mn a b]
  show _↔(decide (x<y)||(x==y&&Vy a b))=true
  simp
theorem yl (a b:List UInt8):decide (a≤b)= !Vy b a:=by
 have h:a≤b↔¬b<a:=Iff.rfl
 rw [Bool.eq_iff_iff,Dq,h,Mn]
 simp
theorem S9 (ss:List BS):(ss.mergeSort fun x y=>decide (x≤y))=Ql id ss:=by
 refine QsF (List.mergeSort_perm ss _) ?_
 unfold j4
 have h:=List.pairwise_mergeSort (le:=fun x y:BS=>decide (x≤y)) (fun a b c h1 h2=>by
  rw [yl] at*
  simp only [Bool.not_eq_true'] at*
  exact AS h1 h2) (fun a b=>by
  rw [yl,yl]
  by_cases h:Vy b a=true
  ·rw [h,IJ h];rfl
  ·rw [Bool.not_eq_true] at h;rw [h];rfl) ss
 refine h.imp fun {a b} h=> ?_
 rw [yl] at h
 simpa using h
end Go.PN
namespace Go.AI
open Go.PN Go.Sort Go.Shelf Go.Proofs
theorem Qp9 {α:Type} [Inhabited α] {enc:α→Value} {w:World} {g off:Nat} {cs:Array Value} {ty:TypeId} {fr:Nat×Nat} (hb:w.heap[g]?=some (.cells cs ty fr)) (m:Nat) (F:Array α) (os:Array Obj):
  (grow (putRow enc (Sort.ahead w m) g off F) os).heap[g]?=some (.cells (putCells enc off F cs) ty fr)∧(∀b,b<w.heap.size→b≠g→(grow (putRow enc (Sort.ahead w m) g off F) os).heap[b]?=w.heap[b]?)∧w.heap.size≤(grow (putRow enc (Sort.ahead w m) g off F) os).heap.size:=by
 have hg:g<w.heap.size:=(Array.getElem?_eq_some_iff.1 hb).1
 have bF:(putRow enc (Sort.ahead w m) g off F).heap.size=w.heap.size:=by simp [putRow,mapBlock,Sort.ahead]
 refine⟨?_,fun b rn aK=> ?_,?_⟩
 ·rw [heap_grow_old _ _ (by rw [bF];exact hg)]
  simp only [putRow,mapBlock,Sort.ahead,Array.getElem?_modify,if_true,hb,Option.map_some]
  rfl
 ·rw [heap_grow_old _ _ (by rw [bF];exact rn)]
  simp only [putRow,mapBlock,Sort.ahead,Array.getElem?_modify]
  rw [iN (fun e=>aK e.symm)]
 ·rw [size_grow,bF]
  omega
theorem Gr {P:Program} {ρ:Ren} (L:Lays.n190 P ρ) {fs:FuncId} (vm:ρ.f 190=fs) (rp:Ja P fs) (ty:TypeId) (pre xs:List BS) (hl:xs.length<4611686018427387904) (g:Nat):
  Fh P fs [(g,.cells ty (pre.length+xs.length) (Qi (pre++xs)))] [.c (.aO g 1 pre.length xs.length)] (fun x h=>x=.aF []∧h=[(g,.cells ty (pre.length+xs.length) (Qi (pre++Ql id xs)))]):=by
 refine⟨rp,fun C vs hC bf ho hr=> ?_⟩
 match vs,hr with
 |[v1],⟨h1,_⟩=>
  obtain⟨c',rfl,jq,cE,_⟩:∃c',v1=.slice (some ⟨g,pre.length,none⟩) xs.length c'∧xs.length≤c'∧c'≤maxLen∧Has C.w0 g (pre.length+c'*1):=h1
  obtain⟨cs,hb,cn,hj⟩:=ho g _ (Lv.2 rfl)
  have bY:g<C.w0.heap.size:=(Array.getElem?_eq_some_iff.1 hb).1
  have iF:∀j,j<pre.length+xs.length→cs[j]?=some (.string (sB ((pre++xs).getD j []))):=fun j nK=>by
   obtain⟨u,hu,gp⟩:=hj j nK
   rw [X0] at gp
   have:u=.string (sB ((pre++xs).getD j [])):=gp
   rw [hu,this]
  have hH:Holds encStr C.w0 g pre.length xs.toArray:=fun j bp=>by
   have bp:j<xs.length:=by simpa using bp
   refine⟨?_,?_⟩
   ·unfold World.cell?
    simp only [hb,Option.isSome_none,Bool.false_eq_true,if_false]
    rw [iF _ om,Lg,List.getElem?_append_right om,Nat.add_sub_cancel_left,Li bp,getElem!_pos xs.toArray j (by simpa using bp)]
    rfl
   ·unfold World.frozen?
    simp only [hb]
    simp
  have gd:=Any.slices_Sort_string L g pre.length c' xs C.w0 hH bY hl
  rw [vm] at gd
  refine gd.mono ?_
  rintro e w' ⟨rfl,n,os,rfl⟩
  rw [S9]
  have cq:(Ql id xs).length=xs.length:=(QW id xs).length_eq
  obtain⟨q1,q2,q3⟩:=Qp9 (enc:=encStr) (off:=pre.length) hb n (Ql id xs).toArray os
  have hlen:(putCells encStr pre.length (Ql id xs).toArray cs).size=cs.size:=by simp [putCells]
  have DT:∀t b,C.S0 t b→b≠g:=fun t b hS e=>C.apart t b hS ((hC b).2 (by simp [Qa.keys,e]))
  have bd:Fr C.bO C.w0 (grow (putRow encStr (Sort.ahead C.w0 n) g pre.length (Ql id xs).toArray) os):=by
   refine⟨rfl,rfl,rfl,q3,?_,fun b rn fX=>q2 b rn (fun e=>fX ((hC b).2 (by simp [Qa.keys,e]))),fun g' m' hh=> ?_⟩
   ·show C.w0.drawn≤C.w0.drawn+n
    omega
   ·by_cases e:g'=g
    ·subst e
     obtain⟨cI,we,⟨fr,dv⟩,eM⟩:=hh
     rw [hb] at dv
     injection dv with dv
     injection dv with e1 e2 e3
     subst e1
     exact⟨_,_,⟨_,q1⟩,by rw [hlen];exact eM⟩
    ·have hl:=hh.lt
     obtain⟨cI,we,⟨fr,dv⟩,eM⟩:=hh
     exact⟨cI,we,⟨fr,(q2 g' hl e).trans dv⟩,eM⟩
  refine⟨.tuple #[],.aF [],[(g,.cells ty (pre.length+xs.length) (Qi (pre++Ql id xs)))],rfl,⟨rfl,rfl⟩,by simp [Qa.keys],fun g' ch=> ?_,⟨[],rfl,trivial⟩,fun g' o' lK=> ?_,bd⟩
  ·simp only [Qa.keys,Ld,List.map_nil,Lv] at ch
   subst ch
   exact .inl ((hC _).2 (by simp [Qa.keys]))
  ·rw [Lv] at lK
   injection lK with e1 e2
   subst e1 e2
   refine⟨putCells encStr pre.length (Ql id xs).toArray cs,q1,by rw [hlen];exact cn,fun j bp=>⟨.string (sB ((pre++Ql id xs).getD j [])),?_,?_⟩⟩
   ·have zt:j<cs.size:=Ae bp cn
    unfold putCells
    rw [Array.getElem?_mapIdx,Array.getElem?_eq_getElem zt,Option.map_some]
    by_cases hp:pre.length≤j
    ·rw [iP ⟨hp,by simp [cq];omega⟩,getElem!_pos (Ql id xs).toArray (j-pre.length) (by simp [cq];omega),Lg,List.getElem?_append_right hp,Li (by rw [cq];omega)]
     rfl
    ·rw [iN (fun z=>hp z.1)]
     have h2:=iF j bp
     rw [Array.getElem?_eq_getElem zt] at h2
     rw [h2,Lg,List.getElem?_append_left om,Lg,List.getElem?_append_left om]
   ·show XQ _ _ (Qi _ j) _
    rw [X0]
    rfl
end Go.AI
namespace Go.Proofs.YtjegkdadeghpjaaGreatDoor
open Go.Shelf Go.Proofs Proofs.Tryz
def Qnp:Go.Shelf.Ren:=⟨fun|6=>59|15=>94|14=>128|28=>157|29=>158|20=>207|21=>208|22=>209|23=>210|24=>211|25=>212|26=>213|27=>214|46=>315|47=>264|48=>265|49=>316|50=>317|57=>358|n=>n,fun|22=>39|24=>103|25=>126|3=>3|39=>154|0=>0|53=>180|55=>80|4=>4|46=>204|45=>203|50=>209|5=>5|9=>9|66=>295|70=>299|76=>352|77=>145|n=>n,fun n=>n⟩
theorem QsL:SlLaysF0.n6 prog Qnp:=⟨by kernel_rfl,⟨"slices.SortFunc[[]faultline/api.House,faultline/api.House]",by decide,func59.trans eK⟩,⟨"slices.pdqsortCmpFunc[faultline/api.House]",by decide,func128.trans eK⟩,func94.trans eK,⟨"slices.insertionSortCmpFunc[faultline/api.House]",by decide,func207.trans eK⟩,⟨"slices.heapSortCmpFunc[faultline/api.House]",by decide,func208.trans eK⟩,⟨"slices.breakPatternsCmpFunc[faultline/api.House]",by decide,func209.trans eK⟩,⟨"slices.choosePivotCmpFunc[faultline/api.House]",by decide,func210.trans eK⟩,⟨"slices.reverseRangeCmpFunc[faultline/api.House]",by decide,func211.trans eK⟩,⟨"slices.partialInsertionSortCmpFunc[faultline/api.House]",by decide,func212.trans eK⟩,⟨"slices.partitionEqualCmpFunc[faultline/api.House]",by decide,func213.trans eK⟩,⟨"slices.partitionCmpFunc[faultline/api.House]",by decide,func214.trans eK⟩,func157.trans eK,func158.trans eK,⟨"slices.siftDownCmpFunc[faultline/api.House]",by decide,func315.trans eK⟩,func264.trans eK,func265.trans eK,⟨"slices.medianAdjacentCmpFunc[faultline/api.House]",by decide,func316.trans eK⟩,⟨"slices.medianCmpFunc[faultline/api.House]",by decide,func317.trans eK⟩,⟨"slices.order2CmpFunc[faultline/api.House]",by decide,func358.trans eK⟩,underlying0,isAgg0,sizeOf0,zeroValue0,underlying3,isAgg3,sizeOf3,zeroValue3,underlying4,isAgg4,sizeOf4,zeroValue4,underlying5,isAgg5,sizeOf5,zeroValue5,underlying9,isAgg9,sizeOf9,zeroValue9,underlying39,isAgg39,sizeOf39,zeroValue39,underlying126,isAgg126,sizeOf126,zeroValue126,underlying154,isAgg154,sizeOf154,zeroValue154,underlying203,isAgg203,sizeOf203,zeroValue203,underlying204,isAgg204,sizeOf204,zeroValue204,underlying209,isAgg209,sizeOf209,zeroValue209,underlying180,isAgg180,sizeOf180,zeroValue180,underlying80,isAgg80,sizeOf80,zeroValue80,underlying295,isAgg295,sizeOf295,zeroValue295,underlying299,isAgg299,sizeOf299,zeroValue299,underlying352,isAgg352,sizeOf352,zeroValue352,underlying145,isAgg145,sizeOf145,zeroValue145⟩
def Qnq:Go.Shelf.Ren:=⟨fun|6=>126|15=>94|14=>206|28=>157|29=>158|20=>307|21=>308|22=>309|23=>310|24=>311|25=>312|26=>313|27=>314|46=>355|47=>264|48=>265|49=>356|50=>357|57=>380|n=>n,fun|22=>40|24=>71|25=>185|3=>3|39=>154|0=>0|53=>180|55=>80|4=>4|46=>204|45=>203|50=>209|5=>5|9=>9|66=>295|70=>299|76=>352|77=>145|n=>n,fun n=>n⟩
theorem QsM:SlLaysF0.n6 prog Qnq:=⟨by kernel_rfl,⟨"slices.SortFunc[[]faultline/api.Gate,faultline/api.Gate]",by decide,func126.trans eK⟩,⟨"slices.pdqsortCmpFunc[faultline/api.Gate]",by decide,func206.trans eK⟩,func94.trans eK,⟨"slices.insertionSortCmpFunc[faultline/api.Gate]",by decide,func307.trans eK⟩,⟨"slices.heapSortCmpFunc[faultline/api.Gate]",by decide,func308.trans eK⟩,⟨"slices.breakPatternsCmpFunc[faultline/api.Gate]",by decide,func309.trans eK⟩,⟨"slices.choosePivotCmpFunc[faultline/api.Gate]",by decide,func310.trans eK⟩,⟨"slices.reverseRangeCmpFunc[faultline/api.Gate]",by decide,func311.trans eK⟩,⟨"slices.partialInsertionSortCmpFunc[faultline/api.Gate]",by decide,func312.trans eK⟩,⟨"slices.partitionEqualCmpFunc[faultline/api.Gate]",by decide,func313.trans eK⟩,⟨"slices.partitionCmpFunc[faultline/api.Gate]",by decide,func314.trans eK⟩,func157.trans eK,func158.trans eK,⟨"slices.siftDownCmpFunc[faultline/api.Gate]",by decide,func355.trans eK⟩,func264.trans eK,func265.trans eK,⟨"slices.medianAdjacentCmpFunc[faultline/api.Gate]",by decide,func356.trans eK⟩,⟨"slices.medianCmpFunc[faultline/api.Gate]",by decide,func357.trans eK⟩,⟨"slices.order2CmpFunc[faultline/api.Gate]",by decide,func380.trans eK⟩,underlying0,isAgg0,sizeOf0,zeroValue0,underlying3,isAgg3,sizeOf3,zeroValue3,underlying4,isAgg4,sizeOf4,zeroValue4,underlying5,isAgg5,sizeOf5,zeroValue5,underlying9,isAgg9,sizeOf9,zeroValue9,underlying40,isAgg40,sizeOf40,zeroValue40,underlying185,isAgg185,sizeOf185,zeroValue185,underlying154,isAgg154,sizeOf154,zeroValue154,underlying203,isAgg203,sizeOf203,zeroValue203,underlying204,isAgg204,sizeOf204,zeroValue204,underlying209,isAgg209,sizeOf209,zeroValue209,underlying180,isAgg180,sizeOf180,zeroValue180,underlying80,isAgg80,sizeOf80,zeroValue80,underlying295,isAgg295,sizeOf295,zeroValue295,underlying299,isAgg299,sizeOf299,zeroValue299,underlying352,isAgg352,sizeOf352,zeroValue352,underlying145,isAgg145,sizeOf145,zeroValue145⟩
def Qnr:Go.Shelf.Ren:=⟨fun|6=>63|15=>94|14=>131|28=>157|29=>158|20=>216|21=>217|22=>218|23=>219|24=>220|25=>221|26=>222|27=>223|46=>318|47=>264|48=>265|49=>319|50=>320|57=>359|n=>n,fun|22=>38|24=>101|25=>129|3=>3|39=>154|0=>0|53=>180|55=>80|4=>4|46=>204|45=>203|50=>209|5=>5|9=>9|66=>295|70=>299|76=>352|77=>145|n=>n,fun n=>n⟩
theorem QsN:SlLaysF0.n6 prog Qnr:=⟨by kernel_rfl,⟨"slices.SortFunc[[]faultline/api.Event,faultline/api.Event]",by decide,func63.trans eK⟩,⟨"slices.pdqsortCmpFunc[faultline/api.Event]",by decide,func131.trans eK⟩,func94.trans eK,⟨"slices.insertionSortCmpFunc[faultline/api.Event]",by decide,func216.trans eK⟩,⟨"slices.heapSortCmpFunc[faultline/api.Event]",by decide,func217.trans eK⟩,⟨"slices.breakPatternsCmpFunc[faultline/api.Event]",by decide,func218.trans eK⟩,⟨"slices.choosePivotCmpFunc[faultline/api.Event]",by decide,func219.trans eK⟩,⟨"slices.reverseRangeCmpFunc[faultline/api.Event]",by decide,func220.trans eK⟩,⟨"slices.partialInsertionSortCmpFunc[faultline/api.Event]",by decide,func221.trans eK⟩,⟨"slices.partitionEqualCmpFunc[faultline/api.Event]",by decide,func222.trans eK⟩,⟨"slices.partitionCmpFunc[faultline/api.Event]",by decide,func223.trans eK⟩,func157.trans eK,func158.trans eK,⟨"slices.siftDownCmpFunc[faultline/api.Event]",by decide,func318.trans eK⟩,func264.trans eK,func265.trans eK,⟨"slices.medianAdjacentCmpFunc[faultline/api.Event]",by decide,func319.trans eK⟩,⟨"slices.medianCmpFunc[faultline/api.Event]",by decide,func320.trans eK⟩,⟨"slices.order2CmpFunc[faultline/api.Event]",by decide,func359.trans eK⟩,underlying0,isAgg0,sizeOf0,zeroValue0,underlying3,isAgg3,sizeOf3,zeroValue3,underlying4,isAgg4,sizeOf4,zeroValue4,underlying5,isAgg5,sizeOf5,zeroValue5,underlying9,isAgg9,sizeOf9,zeroValue9,underlying38,isAgg38,sizeOf38,zeroValue38,underlying129,isAgg129,sizeOf129,zeroValue129,underlying154,isAgg154,sizeOf154,zeroValue154,underlying203,isAgg203,sizeOf203,zeroValue203,underlying204,isAgg204,sizeOf204,zeroValue204,underlying209,isAgg209,sizeOf209,zeroValue209,underlying180,isAgg180,sizeOf180,zeroValue180,underlying80,isAgg80,sizeOf80,zeroValue80,underlying295,isAgg295,sizeOf295,zeroValue295,underlying299,isAgg299,sizeOf299,zeroValue299,underlying352,isAgg352,sizeOf352,zeroValue352,underlying145,isAgg145,sizeOf145,zeroValue145⟩
def Qns:Go.Shelf.Ren:=⟨fun|6=>65|15=>94|14=>132|28=>157|29=>158|20=>224|21=>225|22=>226|23=>227|24=>228|25=>229|26=>230|27=>231|46=>321|47=>264|48=>265|49=>322|50=>323|57=>360|n=>n,fun|22=>41|24=>105|25=>131|3=>3|39=>154|0=>0|53=>180|55=>80|4=>4|46=>204|45=>203|50=>209|5=>5|9=>9|66=>295|70=>299|76=>352|77=>145|n=>n,fun n=>n⟩
theorem QsO:SlLaysF0.n6 prog Qns:=⟨by kernel_rfl,⟨"slices.SortFunc[[]faultline/api.Page,faultline/api.Page]",by decide,func65.trans eK⟩,⟨"slices.pdqsortCmpFunc[faultline/api.Page]",by decide,func132.trans eK⟩,func94.trans eK,⟨"slices.insertionSortCmpFunc[faultline/api.Page]",by decide,func224.trans eK⟩,⟨"slices.heapSortCmpFunc[faultline/api.Page]",by decide,func225.trans eK⟩,⟨"slices.breakPatternsCmpFunc[faultline/api.Page]",by decide,func226.trans eK⟩,⟨"slices.choosePivotCmpFunc[faultline/api.Page]",by decide,func227.trans eK⟩,⟨"slices.reverseRangeCmpFunc[faultline/api.Page]",by decide,func228.trans eK⟩,⟨"slices.partialInsertionSortCmpFunc[faultline/api.Page]",by decide,func229.trans eK⟩,⟨"slices.partitionEqualCmpFunc[faultline/api.Page]",by decide,func230.trans eK⟩,⟨"slices.partitionCmpFunc[faultline/api.Page]",by decide,func231.trans eK⟩,func157.trans eK,func158.trans eK,⟨"slices.siftDownCmpFunc[faultline/api.Page]",by decide,func321.trans eK⟩,func264.trans eK,func265.trans eK,⟨"slices.medianAdjacentCmpFunc[faultline/api.Page]",by decide,func322.trans eK⟩,⟨"slices.medianCmpFunc[faultline/api.Page]",by decide,func323.trans eK⟩,⟨"slices.order2CmpFunc[faultline/api.Page]",by decide,func360.trans eK⟩,underlying0,isAgg0,sizeOf0,zeroValue0,underlying3,isAgg3,sizeOf3,zeroValue3,underlying4,isAgg4,sizeOf4,zeroValue4,underlying5,isAgg5,sizeOf5,zeroValue5,underlying9,isAgg9,sizeOf9,zeroValue9,underlying41,isAgg41,sizeOf41,zeroValue41,underlying131,isAgg131,sizeOf131,zeroValue131,underlying154,isAgg154,sizeOf154,zeroValue154,underlying203,isAgg203,sizeOf203,zeroValue203,underlying204,isAgg204,sizeOf204,zeroValue204,underlying209,isAgg209,sizeOf209,zeroValue209,underlying180,isAgg180,sizeOf180,zeroValue180,underlying80,isAgg80,sizeOf80,zeroValue80,underlying295,isAgg295,sizeOf295,zeroValue295,underlying299,isAgg299,sizeOf299,zeroValue299,underlying352,isAgg352,sizeOf352,zeroValue352,underlying145,isAgg145,sizeOf145,zeroValue145⟩
def Qnt:Go.Shelf.Ren:=⟨fun|6=>69|15=>94|14=>134|28=>157|29=>158|20=>241|21=>242|22=>243|23=>244|24=>245|25=>246|26=>247|27=>248|46=>328|47=>264|48=>265|49=>329|50=>330|57=>362|n=>n,fun|22=>42|24=>108|25=>134|3=>3|39=>154|0=>0|53=>180|55=>80|4=>4|46=>204|45=>203|50=>209|5=>5|9=>9|66=>295|70=>299|76=>352|77=>145|n=>n,fun n=>n⟩
theorem QsP:SlLaysF0.n6 prog Qnt:=⟨by kernel_rfl,⟨"slices.SortFunc[[]faultline/api.Group,faultline/api.Group]",by decide,func69.trans eK⟩,⟨"slices.pdqsortCmpFunc[faultline/api.Group]",by decide,func134.trans eK⟩,func94.trans eK,⟨"slices.insertionSortCmpFunc[faultline/api.Group]",by decide,func241.trans eK⟩,⟨"slices.heapSortCmpFunc[faultline/api.Group]",by decide,func242.trans eK⟩,⟨"slices.breakPatternsCmpFunc[faultline/api.Group]",by decide,func243.trans eK⟩,⟨"slices.choosePivotCmpFunc[faultline/api.Group]",by decide,func244.trans eK⟩,⟨"slices.reverseRangeCmpFunc[faultline/api.Group]",by decide,func245.trans eK⟩,⟨"slices.partialInsertionSortCmpFunc[faultline/api.Group]",by decide,func246.trans eK⟩,⟨"slices.partitionEqualCmpFunc[faultline/api.Group]",by decide,func247.trans eK⟩,⟨"slices.partitionCmpFunc[faultline/api.Group]",by decide,func248.trans eK⟩,func157.trans eK,func158.trans eK,⟨"slices.siftDownCmpFunc[faultline/api.Group]",by decide,func328.trans eK⟩,func264.trans eK,func265.trans eK,⟨"slices.medianAdjacentCmpFunc[faultline/api.Group]",by decide,func329.trans eK⟩,⟨"slices.medianCmpFunc[faultline/api.Group]",by decide,func330.trans eK⟩,⟨"slices.order2CmpFunc[faultline/api.Group]",by decide,func362.trans eK⟩,underlying0,isAgg0,sizeOf0,zeroValue0,underlying3,isAgg3,sizeOf3,zeroValue3,underlying4,isAgg4,sizeOf4,zeroValue4,underlying5,isAgg5,sizeOf5,zeroValue5,underlying9,isAgg9,sizeOf9,zeroValue9,underlying42,isAgg42,sizeOf42,zeroValue42,underlying134,isAgg134,sizeOf134,zeroValue134,underlying154,isAgg154,sizeOf154,zeroValue154,underlying203,isAgg203,sizeOf203,zeroValue203,underlying204,isAgg204,sizeOf204,zeroValue204,underlying209,isAgg209,sizeOf209,zeroValue209,underlying180,isAgg180,sizeOf180,zeroValue180,underlying80,isAgg80,sizeOf80,zeroValue80,underlying295,isAgg295,sizeOf295,zeroValue295,underlying299,isAgg299,sizeOf299,zeroValue299,underlying352,isAgg352,sizeOf352,zeroValue352,underlying145,isAgg145,sizeOf145,zeroValue145⟩
def Qnu:Go.Shelf.Ren:=⟨fun|6=>71|15=>94|14=>135|28=>157|29=>158|20=>249|21=>250|22=>251|23=>252|24=>253|25=>254|26=>255|27=>256|46=>331|47=>264|48=>265|49=>332|50=>333|57=>363|n=>n,fun|22=>110|24=>114|25=>136|3=>3|39=>154|0=>0|53=>180|55=>80|4=>4|46=>204|45=>203|50=>209|5=>5|9=>9|66=>295|70=>299|76=>352|77=>145|n=>n,fun n=>n⟩
theorem QsQ:SlLaysF0.n6 prog Qnu:=⟨by kernel_rfl,⟨"slices.SortFunc[[]faultline/api.PhaseValue,faultline/api.PhaseValue]",by decide,func71.trans eK⟩,⟨"slices.pdqsortCmpFunc[faultline/api.PhaseValue]",by decide,func135.trans eK⟩,func94.trans eK,⟨"slices.insertionSortCmpFunc[faultline/api.PhaseValue]",by decide,func249.trans eK⟩,⟨"slices.heapSortCmpFunc[faultline/api.PhaseValue]",by decide,func250.trans eK⟩,⟨"slices.breakPatternsCmpFunc[faultline/api.PhaseValue]",by decide,func251.trans eK⟩,⟨"slices.choosePivotCmpFunc[faultline/api.PhaseValue]",by decide,func252.trans eK⟩,⟨"slices.reverseRangeCmpFunc[faultline/api.PhaseValue]",by decide,func253.trans eK⟩,⟨"slices.partialInsertionSortCmpFunc[faultline/api.PhaseValue]",by decide,func254.trans eK⟩,⟨"slices.partitionEqualCmpFunc[faultline/api.PhaseValue]",by decide,func255.trans eK⟩,⟨"slices.partitionCmpFunc[faultline/api.PhaseValue]",by decide,func256.trans eK⟩,func157.trans eK,func158.trans eK,⟨"slices.siftDownCmpFunc[faultline/api.PhaseValue]",by decide,func331.trans eK⟩,func264.trans eK,func265.trans eK,⟨"slices.medianAdjacentCmpFunc[faultline/api.PhaseValue]",by decide,func332.trans eK⟩,⟨"slices.medianCmpFunc[faultline/api.PhaseValue]",by decide,func333.trans eK⟩,⟨"slices.order2CmpFunc[faultline/api.PhaseValue]",by decide,func363.trans eK⟩,underlying0,isAgg0,sizeOf0,zeroValue0,underlying3,isAgg3,sizeOf3,zeroValue3,underlying4,isAgg4,sizeOf4,zeroValue4,underlying5,isAgg5,sizeOf5,zeroValue5,underlying9,isAgg9,sizeOf9,zeroValue9,underlying110,isAgg110,sizeOf110,zeroValue110,underlying136,isAgg136,sizeOf136,zeroValue136,underlying154,isAgg154,sizeOf154,zeroValue154,underlying203,isAgg203,sizeOf203,zeroValue203,underlying204,isAgg204,sizeOf204,zeroValue204,underlying209,isAgg209,sizeOf209,zeroValue209,underlying180,isAgg180,sizeOf180,zeroValue180,underlying80,isAgg80,sizeOf80,zeroValue80,underlying295,isAgg295,sizeOf295,zeroValue295,underlying299,isAgg299,sizeOf299,zeroValue299,underlying352,isAgg352,sizeOf352,zeroValue352,underlying145,isAgg145,sizeOf145,zeroValue145⟩
def Qnv:Go.Shelf.Ren:=⟨fun|190=>68|125=>94|258=>133|128=>157|129=>158|302=>232|303=>233|304=>234|305=>235|306=>236|307=>237|308=>238|309=>239|310=>240|333=>324|329=>264|330=>265|334=>325|335=>326|336=>327|344=>361|n=>n,fun|31=>66|9=>9|3=>3|46=>154|0=>0|51=>180|53=>80|4=>4|183=>204|182=>203|131=>209|5=>5|218=>295|222=>299|228=>352|229=>145|n=>n,fun n=>n⟩
theorem Mo:Lays.n190 prog Qnv:=⟨by kernel_rfl,func94.trans eK,func157.trans eK,func158.trans eK,func68.trans eK,func133.trans eK,func232.trans eK,func233.trans eK,func234.trans eK,func235.trans eK,func236.trans eK,func237.trans eK,func238.trans eK,func239.trans eK,func240.trans eK,func264.trans eK,func265.trans eK,func324.trans eK,func325.trans eK,func326.trans eK,func327.trans eK,func361.trans eK,underlying0,isAgg0,sizeOf0,zeroValue0,underlying3,isAgg3,sizeOf3,zeroValue3,underlying4,isAgg4,sizeOf4,zeroValue4,underlying5,isAgg5,sizeOf5,zeroValue5,underlying9,isAgg9,sizeOf9,zeroValue9,underlying66,isAgg66,sizeOf66,zeroValue66,underlying154,isAgg154,sizeOf154,zeroValue154,underlying180,isAgg180,sizeOf180,zeroValue180,underlying80,isAgg80,sizeOf80,zeroValue80,underlying209,isAgg209,sizeOf209,zeroValue209,underlying203,isAgg203,sizeOf203,zeroValue203,underlying204,isAgg204,sizeOf204,zeroValue204,underlying295,isAgg295,sizeOf295,zeroValue295,underlying299,isAgg299,sizeOf299,zeroValue299,underlying352,isAgg352,sizeOf352,zeroValue352,underlying145,isAgg145,sizeOf145,zeroValue145⟩
end Go.Proofs.YtjegkdadeghpjaaGreatDoor

namespace Go.AI
section
variable {P : Program} {h : Qa} {ρ : Operand → AV}
theorem QB.qT {f:FuncId} {fn:Func} {x y:Operand} {ts:Array TypeId} {a b:ByteArray} (hf:P.funcs[f]?=some fn) (eJ:(fn.name== "runtime.NumGoroutine")=false) (hb:fn.body.isNone=true) (hn:Extern.findNext fn=none) (he:Extern.find fn=some Extern.BytealgCompare.compare) (hk:ρ (.func f)=.c (.raw (.func (.func f) #[] #[]))) (hx:ρ x=.c (.str a)) (hy:ρ y=.c (.str b)):
  QB P h ρ (.call {callee:=.value (.func f),args:= #[x,y],argTypes:=ts}) (.c (.int .i64 (Lib.compareBytes a.data.toList b.data.toList))):=fun S w e _ ho _=>by
 have h1:=ho x (by simp [Op.operands,Call.operands])
 rw [hx] at h1
 have h1:e x=.string a:=h1
 have h2:=ho y (by simp [Op.operands,Call.operands])
 rw [hy] at h2
 have h2:e y=.string b:=h2
 refine⟨.int .i64 (Lib.compareBytes a.data.toList b.data.toList),fun o au=> ?_,rfl⟩
 have:=run_callFunc_extern (P:=P) hf eJ hb hn he #[e x,e y] w
 rw [h1,h2,Lib.run_compareString] at this
 have h3:=ho (.func f) (by simp [Op.operands,Call.operands])
 rw [hk] at h3
 have ox:e (.func f)=.func (.func f) #[] #[]:=h3
 simp [execOp,au,resolve,invoke,ox,h1,h2,Deferred.ofValue,this,Result.andThen]
end
end Go.AI
namespace Go.PN
open Go.AI
abbrev Qv2:BS:=[48,49,50,51,52,53,54,55,56,57,97,98,99,100,101,102,103,104,105,106,107,108,109,110,111,112,113,114,115,116,117,118,119,120,121,122]
abbrev uB:BS:=[48,48,48,49,48,50,48,51,48,52,48,53,48,54,48,55,48,56,48,57,49,48,49,49,49,50,49,51,49,52,49,53,49,54,49,55,49,56,49,57,50,48,50,49,50,50,50,51,50,52,50,53,50,54,50,55,50,56,50,57,51,48,51,49,51,50,51,51,51,52,51,53,51,54,51,55,51,56,51,57,52,48,52,49,52,50,52,51,52,52,52,53,52,54,52,55,52,56,52,57,53,48,53,49,53,50,53,51,53,52,53,53,53,54,53,55,53,56,53,57,54,48,54,49,54,50,54,51,54,52,54,53,54,54,54,55,54,56,54,57,55,48,55,49,55,50,55,51,55,52,55,53,55,54,55,55,55,56,55,57,56,48,56,49,56,50,56,51,56,52,56,53,56,54,56,55,56,56,56,57,57,48,57,49,57,50,57,51,57,52,57,53,57,54,57,55,57,56,57,57]
theorem Qqa:∀n:Nat,n<100→Vn uB (n*2) (n*2+2)=[UInt8.ofNat (48+n/10),UInt8.ofNat (48+n%10)]:=by decide
theorem Qqb:∀n:Nat,n<10→Vn Qv2 n (n+1)=[UInt8.ofNat (48+n)]:=by decide
theorem YC {k:Nat} (x:WA k):(CV.str (sB x.nm)::x.vs.map CV.raw).all CV.aX=true:=by
 rw [List.all_cons,List.all_map]
 refine Bool.and_eq_true_iff.2 ⟨rfl,List.all_eq_true.2 fun v hv=>x.one v hv⟩
end Go.PN
namespace Go.Proofs.YtjegkdadeghpjaaGreatDoor
open Go.AI Go.PN Proofs.Tryz
attribute [local irreducible] aw Fa VA Vk Fh YO
theorem SU (a b:BS):Fa prog 129 [.c (.str (sB a)),.c (.str (sB b))] (.c (.int .i64 (Lib.compareBytes a b))):=by
 refine fA func129 fun C hC=>?_
 repeat' first|refine zV o0 ?_|refine zH o0 ?_ ?_<;>intro hb|fail
 refine Xh (QB.qT func215 rfl rfl rfl rfl rfl eE eE) rfl rfl ?_
 refine xS ?_
 repeat' first|refine zV o0 ?_|refine zH o0 ?_ ?_<;>intro hb|fail
 refine xT hC ?_
 exact .one (.c (.int _ _))
theorem VI (a b:BS):Fa prog 61 [.c (.str (sB a)),.c (.str (sB b))] (.c (.int .i64 (Lib.compareBytes a b))):=by
 have f1:=SU a b
 refine fA func61 fun C hC=>?_
 repeat' first|refine zV o0 ?_|refine yQ o0 f1 ?_|refine zH o0 ?_ ?_<;>intro hb|fail
 refine xT hC ?_
 exact .one (.c (.int _ _))
theorem Qv3:nX prog 60 2:=fun x y=>by
 have f1:=VI x.nm y.nm
 refine fA func60 fun C hC=>?_
 repeat' first|refine zV o0 ?_|refine zH o0 ?_ ?_<;>intro hb|fail
 refine VL (v:=.agg (.str (sB x.nm)::x.vs.map .raw)) rfl rfl rfl eE (fun _ e=>by cases e) (by exact YC x) fun g1 ah=> ?_
 refine xS ?_
 refine VL (v:=.agg (.str (sB y.nm)::y.vs.map .raw)) rfl rfl rfl eE (fun _ e=>by cases e) (by exact YC y) fun g2 aq=> ?_
 replace aq:=Qa.ay aq
 dsimp only [Qa.ne] at aq
 refine yS aq ?_
 repeat' first|refine zV aq ?_|refine yQ aq f1 ?_|refine zH aq ?_ ?_<;>intro hb|fail
 refine yT hC aq ?_
 exact .one (.c (.int _ _))
theorem Qv4:nX prog 64 11:=fun x y=>by
 have f1:=VI x.nm y.nm
 refine fA func64 fun C hC=>?_
 repeat' first|refine zV o0 ?_|refine zH o0 ?_ ?_<;>intro hb|fail
 refine VL (v:=.agg (.str (sB x.nm)::x.vs.map .raw)) rfl rfl rfl eE (fun _ e=>by cases e) (by exact YC x) fun g1 ah=> ?_
 refine xS ?_
 refine VL (v:=.agg (.str (sB y.nm)::y.vs.map .raw)) rfl rfl rfl eE (fun _ e=>by cases e) (by exact YC y) fun g2 aq=> ?_
 replace aq:=Qa.ay aq
 dsimp only [Qa.ne] at aq
 refine yS aq ?_
 repeat' first|refine zV aq ?_|refine yQ aq f1 ?_|refine zH aq ?_ ?_<;>intro hb|fail
 refine yT hC aq ?_
 exact .one (.c (.int _ _))
theorem Qv5:nX prog 66 3:=fun x y=>by
 have f1:=VI x.nm y.nm
 refine fA func66 fun C hC=>?_
 repeat' first|refine zV o0 ?_|refine zH o0 ?_ ?_<;>intro hb|fail
 refine VL (v:=.agg (.str (sB x.nm)::x.vs.map .raw)) rfl rfl rfl eE (fun _ e=>by cases e) (by exact YC x) fun g1 ah=> ?_
 refine xS ?_
 refine VL (v:=.agg (.str (sB y.nm)::y.vs.map .raw)) rfl rfl rfl eE (fun _ e=>by cases e) (by exact YC y) fun g2 aq=> ?_
 replace aq:=Qa.ay aq
 dsimp only [Qa.ne] at aq
 refine yS aq ?_
 repeat' first|refine zV aq ?_|refine yQ aq f1 ?_|refine zH aq ?_ ?_<;>intro hb|fail
 refine yT hC aq ?_
 exact .one (.c (.int _ _))
theorem Qv6:nX prog 70 4:=fun x y=>by
 have f1:=VI x.nm y.nm
 refine fA func70 fun C hC=>?_
 repeat' first|refine zV o0 ?_|refine zH o0 ?_ ?_<;>intro hb|fail
 refine VL (v:=.agg (.str (sB x.nm)::x.vs.map .raw)) rfl rfl rfl eE (fun _ e=>by cases e) (by exact YC x) fun g1 ah=> ?_
 refine xS ?_
 refine VL (v:=.agg (.str (sB y.nm)::y.vs.map .raw)) rfl rfl rfl eE (fun _ e=>by cases e) (by exact YC y) fun g2 aq=> ?_
 replace aq:=Qa.ay aq
 dsimp only [Qa.ne] at aq
 refine yS aq ?_
 repeat' first|refine zV aq ?_|refine yQ aq f1 ?_|refine zH aq ?_ ?_<;>intro hb|fail
 refine yT hC aq ?_
 exact .one (.c (.int _ _))
theorem Qv7:nX prog 72 4:=fun x y=>by
 have f1:=VI x.nm y.nm
 refine fA func72 fun C hC=>?_
 repeat' first|refine zV o0 ?_|refine zH o0 ?_ ?_<;>intro hb|fail
 refine VL (v:=.agg (.str (sB x.nm)::x.vs.map .raw)) rfl rfl rfl eE (fun _ e=>by cases e) (by exact YC x) fun g1 ah=> ?_
 refine xS ?_
 refine VL (v:=.agg (.str (sB y.nm)::y.vs.map .raw)) rfl rfl rfl eE (fun _ e=>by cases e) (by exact YC y) fun g2 aq=> ?_
 replace aq:=Qa.ay aq
 dsimp only [Qa.ne] at aq
 refine yS aq ?_
 repeat' first|refine zV aq ?_|refine yQ aq f1 ?_|refine zH aq ?_ ?_<;>intro hb|fail
 refine yT hC aq ?_
 exact .one (.c (.int _ _))
theorem Qv8:nX prog 127 7:=fun x y=>by
 have f1:=VI x.nm y.nm
 refine fA func127 fun C hC=>?_
 repeat' first|refine zV o0 ?_|refine zH o0 ?_ ?_<;>intro hb|fail
 refine VL (v:=.agg (.str (sB x.nm)::x.vs.map .raw)) rfl rfl rfl eE (fun _ e=>by cases e) (by exact YC x) fun g1 ah=> ?_
 refine xS ?_
 refine VL (v:=.agg (.str (sB y.nm)::y.vs.map .raw)) rfl rfl rfl eE (fun _ e=>by cases e) (by exact YC y) fun g2 aq=> ?_
 replace aq:=Qa.ay aq
 dsimp only [Qa.ne] at aq
 refine yS aq ?_
 repeat' first|refine zV aq ?_|refine yQ aq f1 ?_|refine zH aq ?_ ?_<;>intro hb|fail
 refine yT hC aq ?_
 exact .one (.c (.int _ _))
theorem Ta (n:Nat) (h:n<100):Fa prog 279 [.c (.int .i64 n)] (.c (.str (sB (Ve n)))):=by
 by_cases h1:n<10
 ·have d1:decide (n<10)=true:=Dt h1
  rw [KW h1,←Qqb n h1]
  refine fA func279 fun C hC=>?_
  repeat' first|refine zV d1 ?_|refine zH d1 ?_ ?_<;>intro hb|fail
  refine yT hC d1 ?_
  exact .one (.c (.str _))
 ·have d1:decide (n<10)=false:=De h1
  have e:∀l:BS,l=uB→mx [] (AV.c (.str ⟨(Vn l (n*2) (n*2+2)).toArray⟩)) (.c (.str (sB (Ve n)))):=by
   rintro _ rfl
   rw [Qqa n h,ud om,KW om]
   exact .one (.c (.str _))
  have e2:∀a:ByteArray,a=⟨uB.toArray⟩→((n*2+2:Nat):Int)≤(a.size:Int):=by
   rintro _ rfl
   show _≤((uB.length:Nat):Int)
   rw [show uB.length=200 from rfl];omega
  refine fA func279 fun C hC=>?_
  repeat' first|refine zV d1 ?_|refine zH d1 ?_ ?_<;>intro hb|fail
  refine Xh (QB.jg (i:=((n*2:Nat):Int)) (j:=((n*2+2:Nat):Int)) kR rfl ⟨_,(zE d1)⟩ ⟨_,(zE d1)⟩ om om (e2 _ kR)) rfl rfl ?_
  refine yS d1 ?_
  repeat' first|refine zV d1 ?_|refine zH d1 ?_ ?_<;>intro hb|fail
  refine yT hC d1 ?_
  exact e _ kR
theorem Qnw (n:Nat) (h:n<100):Fa prog 173 [.c (.int .i64 n),.c (.int .i64 10)] (.c (.str (sB (Ve n)))):=by
 have f1:=Ta n h
 have d1:decide (n<100)=true:=Dt h
 have d0:decide (n≥0)=true:=Dt (Lz n)
 refine fA func173 fun C hC=>?_
 all_goals try(have Z:=(oj d1 d0);(repeat' first|refine zV Z ?_|refine yQ Z f1 ?_|refine zH Z ?_ ?_<;>intro hb|fail);all_goals clear Z)
 refine yT hC (oj d1 d0) ?_
 exact .one (.c (.str _))
theorem Qqc (n:Nat) (h:n<100):Fa prog 108 [.c (.int .i64 n)] (.c (.str (sB (Ve n)))):=by
 have f1:=Qnw n h
 refine fA func108 fun C hC=>?_
 repeat' first|refine zV o0 ?_|refine yQ o0 f1 ?_|refine zH o0 ?_ ?_<;>intro hb|fail
 refine xT hC ?_
 exact .one (.c (.str _))
theorem QsR (n:Nat) (h:n<100):Fa prog 51 [.c (.int .i64 n)] (.c (.str (sB (Ve n)))):=by
 have f1:=Qqc n h
 refine fA func51 fun C hC=>?_
 repeat' first|refine zV o0 ?_|refine yQ o0 f1 ?_|refine zH o0 ?_ ?_<;>intro hb|fail
 refine xT hC ?_
 exact .one (.c (.str _))
theorem Ig (r:RD) (hw:r.wf 100000):Fa prog 52 [.agg (YS r)] (.c (.str (sB (Y5 r)))):=by
 obtain⟨jW,gV⟩:=RD.cL hw om
 have t1:=IL (Qc r.pn) (Qp _) om
 have t2:=IL (Qc r.pd) (Qp _) om
 have z1:=Wc jW
 have z2:=Wc gV
 rw [Qd] at t1 t2
 have hr:Y5 r=(if r.ps then [45]++UM r.pn else UM r.pn)++(if r.pd=1 then [] else [47]++UM r.pd):=rfl
 generalize UM r.pn=T1 at*
 generalize UM r.pd=T2 at*
 have cE:Fa prog 111 [.c (ws false (Qc r.pd)),.c (ws false [1])] (.c (.int .i64 (Zs r.pd 1))):=by
  have:=y4 r.pd 1 om (by rw [XW om];simp [QA])
  rwa [show Qc 1=[1] from by rw [XW om];simp [QA]] at this
 have h1:Zs r.pd 1=0↔r.pd=1:=by
  unfold Zs
  constructor
  ·intro h
   repeat' split at h
   all_goals first|assumption|cases h
  ·intro h
   rw [h];rfl
 have f1:=Y0 r (XZ hw om)
 have f2:=sK
 refine fA func52 fun C hC=>?_
 repeat' first|refine zV o0 ?_|refine zH o0 ?_ ?_<;>intro hb|fail
 refine xB fun g1 ah=>?_
 repeat' first|refine zV ah ?_|refine yQ ah f1 ?_|refine yQ ah t1 ?_|refine yQ ah t2 ?_|refine yQ ah f2 ?_|refine yQ ah cE ?_|refine zH ah ?_ ?_<;>intro hb|fail
 all_goals
  rename_i q0
  first|rw [iP q0] at hr|rw [iN (by rw [q0];simp)] at hr
  first|rw [iP (h1.1 hb),Lp] at hr|rw [iN (fun e=>hb (h1.2 e))] at hr
  rw [hr]
  refine yT hC ah ?_
  exact .one (.c (.str _))
end Go.Proofs.YtjegkdadeghpjaaGreatDoor
namespace Go.PN
theorem Qnx:∀l:List BS,(OL l).length≤l.length+VK l l.length
 |[]=>Lz _
 |x::l=>by
  have h:=wN x l l.length (Ac _)
  have e:Jy x l l.length=OL (x::l):=by unfold Jy;rw [Lk];rfl
  rw [e] at h
  have a2:VK (x::l) (x::l).length=x.length+VK l l.length:=by unfold VK;rw [Lk,Lk];rfl
  rw [h,a2,Lc];omega
end Go.PN
namespace Go.Proofs.YtjegkdadeghpjaaGreatDoor
open Go.AI Go.PN Proofs.Tryz
attribute [local irreducible] aw Fa VA Vk Fh YO
theorem Ov (t:Bool) (l:List BS) (hl:l.length+VK l l.length≤10000000000):Fa prog 53 [.c (YH t l)] (.c (.str (sB (Yw l)))):=by
 have f1:=QsJ t l hl
 have hj:=Qnx l
 refine fA func53 fun C hC=>?_
 refine Zg o0 f1 ?_
 refine xT hC ?_
 exact .one (.c (.str _))
abbrev tF:List BS:=[yZ,zQ,kV,oQ,oR,eN,kU,jd,w6]
theorem Qqd (k:Int) (h1: -9223372036854775808≤k) (h2:k<9223372036854775808):Fa prog 50 [.c (.int .i64 k)] (.c (.str (sB (XB k)))):=by
 by_cases h:k<0∨k≥9
 ·have e:XB k=C0:=iP h
  rw [e]
  refine fA func50 fun C hC=>?_
  refine xG ?_
  refine Qw (xs:=tF.map fun w=>Operand.const (.string (sB w))) (cells:=tF.map fun w=>.str (sB w)) rfl rfl rfl eE (by refine xS ?_;rfl) rfl om om (by intro z hz;simp only [tF,Ld,List.map_nil,Lb,Lj,or_false] at hz;rcases hz with rfl|rfl|rfl|rfl|rfl|rfl|rfl|rfl|rfl<;>exact⟨rfl,rfl,rfl⟩) rfl fun g3 av=> ?_
  refine xS ?_
  repeat' first|refine zV o0 ?_|refine zH o0 ?_ ?_<;>intro hb|fail
  ·refine xT hC ?_
   exact .one (.c (.str _))
  ·refine xT hC ?_
   exact .one (.c (.str _))
  ·exfalso;omega
 ·have e:k=0∨k=1∨k=2∨k=3∨k=4∨k=5∨k=6∨k=7∨k=8:=by omega
  rcases e with rfl|rfl|rfl|rfl|rfl|rfl|rfl|rfl|rfl
  all_goals
   refine fA func50 fun C hC=>?_
   refine xG ?_
   refine Qw (xs:=tF.map fun w=>Operand.const (.string (sB w))) (cells:=tF.map fun w=>.str (sB w)) rfl rfl rfl eE (by refine xS ?_;rfl) rfl om om (by intro z hz;simp only [tF,Ld,List.map_nil,Lb,Lj,or_false] at hz;rcases hz with rfl|rfl|rfl|rfl|rfl|rfl|rfl|rfl|rfl<;>exact⟨rfl,rfl,rfl⟩) rfl fun g3 av=> ?_
   refine xS ?_
   refine zA o0 ?_
   refine xT hC ?_
   exact .one (.c (.str _))
end Go.Proofs.YtjegkdadeghpjaaGreatDoor
namespace Go.AI
section
variable {E : Vj} {K : List It} {σ : Sl} {h : Qa} {all rest : List Oper} {o : Oper}
theorem Ax {t e size bytes n k:Nat} {z:List CV} {og:Option Nat} {f f2 f':Nat→CV} {s x:Operand} {cx:CV} {pre:Qa} (au:o.op=.call {callee:=.builtin .append,args:= #[s,x],argTypes:= #[t,t]}) (hw:Qu all σ o=some true) (hd:Qs E.N o.dst=true)
  (ht:QP E.P t=some (e,size,bytes)) (hz:Qk E.P e=some z) (aY:z.length=size) (bw:0<size) (hs:ev σ s=.c (gs og size n)) (ax:og=none→n=0) (hx:ev σ x=.c cx) (cl:∀h:Qa,Src h size cx k f2) (df:∀j,j<k*size→(f2 j).aX=true) (hh:h=pre++gh og e (n*size) f)
  (dn:n+k≤maxLen) (ed:(n+k)*bytes≤140737488355328) (hf:∀j,j<(n+k)*size→Xs f (n*size) f2 j=f' j)
  (kk:∀dA,(dA=none→n+k=0)→(∀g,dA=some g→g∉pre.keys)→aw E (.ops all rest::K) (σ.az o.dst (.c (gs dA size (n+k)))) (pre++gh dA e ((n+k)*size) f')):aw E (.ops all (o::rest)::K) σ h:=by
 subst hh
 rcases Nat.eq_zero_or_pos k with hk|hk
 ·subst hk
  refine YY fun bf=> ?_
  refine Vm (cs:=gs og size n) (σ':=σ.az o.dst (.c (gs og size n))) au hw hd ht hs (by cases og<;>rfl) hx (cl _) rfl ?_
  cases og with
  |none=>exact kk none ax (fun g e=>by cases e)
  |some g=>
   have kn:g∉pre.keys:=fun hm=>by
    simp only [Qa.keys,gh,List.map_append,Ld,List.map_nil] at bf
    exact(List.nodup_append.1 bf).2.2 g hm g (by simp) rfl
   refine Qj (h':=(g,.cells e (n*size) f)::pre) (List.perm_append_singleton _ _) ?_
   refine QY (f':=f') (fun j hj=>by rw [←hf j hj];simp [Xs,hj]) ?_
   refine Qj (h':=pre++gh (some g) e (n*size) f') (List.perm_append_singleton _ _).symm ?_
   exact kk (some g) (fun e=>by cases e) (fun g' e=>by injection e with e;subst e;exact kn)
 ·cases og with
  |none=>
   obtain rfl:n=0:=ax rfl
   refine UX au hw hd ht hz aY bw hs hx (cl _) hk om (by rwa [Nz] at ed) fun g' ch=> ?_
   refine QY (f':=f') (fun j hj=>by rw [←hf j (by rwa [Nz])];simp [Xs]) ?_
   refine Qj (h':=pre++gh (some g') e (k*size) f') ?_ ?_
   ·simp only [gh,Lp];exact(List.perm_append_singleton _ _).symm
   ·have:=kk (some g') (fun e=>by cases e) (fun g e=>by injection e with e;subst e;exact fun hm=>ch (by simpa [Qa.keys,gh] using hm))
    rw [Nz] at this
    exact this
  |some g=>
   refine YY fun bf=> ?_
   have kn:g∉pre.keys:=fun hm=>by
    simp only [Qa.keys,gh,List.map_append,Ld,List.map_nil] at bf
    exact(List.nodup_append.1 bf).2.2 g hm g (by simp) rfl
   refine YA (g:=g) (m:=n*size) (f:=f) (h2:=pre) au hw hd ht hz aY bw hs (Qa.dc kn) (Ac _) hx (cl _) df hk dn ed (Qa.eC kn) fun g' ch=> ?_
   refine QY (f':=f') (fun j hj=>hf j hj) ?_
   refine Qj (h':=pre++gh (some g') e ((n+k)*size) f') (List.perm_append_singleton _ _).symm ?_
   exact kk (some g') (fun e=>by cases e) (fun g'' e=>by injection e with e;subst e;exact ch)
theorem Ih {x:Nat×XS} {g n:Nat} {ty:TypeId} {f f':Nat→CV} {h:Qa} (hf:∀j,j<n→f j=f' j) (k:aw E K σ (x::(g,.cells ty n f')::h)):aw E K σ (x::(g,.cells ty n f)::h):=fun a w s=>by
 refine k a w ⟨s.size,s.defers,s.bC,fun g' o' hm=> ?_,s.nodup,s.keys,s.frame⟩
 rcases Lb.1 hm with e|hm
 ·exact s.heap g' o' (Lb.2 (.inl e))
 ·rcases Lb.1 hm with e|hm
  ·injection e with e1 e2
   subst e1 e2
   exact YN.uK hf (s.heap _ _ (Lm _ (Lf ..)))
  ·exact s.heap g' o' (Lm _ (Lm _ hm))
end
end Go.AI
namespace Go.AI
theorem Qv9 {P:Program} {f:FuncId} {args:List AV} {r:AV} (h:kC (fun _ _=>True) P f args r):Fa P f args r:=h
theorem QuG {P:Program} {f:FuncId} {args:List AV} {r:AV} (h:kC WC P f args r):VA P f args r:=h
end Go.AI
namespace Go.PN
open Go.AI
theorem W9 (a b:List BS):∀j,j<(a.length+b.length)*1→Xs (Qi a) (a.length*1) (Qi b) j=Qi (a++b) j:=fun j hj=>by
 unfold Xs
 rw [X0,X0,X0,Ad]
 split
 ·rename_i h
  rw [Lg,Lg,List.getElem?_append_left h]
 ·rename_i h
  rw [Lg,Lg,List.getElem?_append_right om]
theorem Gs (a:List BS) (w:BS):∀j,j<(a.length+1)*1→Xs (Qi a) (a.length*1) (ao [.str (sB w)]) j=Qi (a++[w]) j:=fun j hj=>by
 rw [←W9 a [w] j hj]
 unfold Xs
 split
 ·rfl
 ·rw [X0,show j-a.length*1=0 from by omega];rfl
end Go.PN
namespace Go.Proofs.YtjegkdadeghpjaaGreatDoor
open Go.AI Go.PN Proofs.Tryz
attribute [local irreducible] aw Fa VA Vk Fh YO
theorem G4 {T:(Bool→Nat→Prop)→World→Prop} (g:Xk) (jn: -9223372036854775808≤g.kind) (pU:g.kind<9223372036854775808) (hk:g.kind=2→∀C:ZX,T C.S0 C.w0→Vk C prog 51 [.c (.int .i64 g.k)] (.c (.str (sB (Zz g.k))))) (hw:g.aH.wf 100000) (hl:(Zo g).length+VK (Zo g) (Zo g).length≤10000000000):kC T prog 25 [.agg (Zi g)] (.c (.str (sB (ZZ g)))):=by
 have f1:=Qqd g.kind jn pU
 have eH:g.ak.length≤10000000000:=by have:(Zo g).length≥g.ak.length:=by unfold Zo;simp;omega
                                     omega
 refine WJ func25 rfl rfl (by simp [ntmps25]) fun C hC hT=> ?_
 simp only [ZD,Nat.reduceAdd]
 refine xG ?_
 refine xB fun g1 ah=>?_
 refine yG ah ?_
 refine Yl [(g1,.cells 71 7 (ao (Zi g)))] [(0,0),(1,0),(2,0),(3,0),(4,0),(5,1),(6,0)] Qg kR (Qm (Lf ..) Qf) ?_
 refine yG ah ?_
 refine X9 rfl f1 rfl rfl rfl (fun _ _=>(zL ah)) ?_
 refine Xw ah ?_
 refine Qv (xs:=[.const (.string (sB Qy)),.tmp 5,.tmp 8]) (cells:=[.str (sB Qy),.str (sB g.name),.str (sB (XB g.kind))]) rfl rfl rfl rfl (zE ah) (by refine yS ah ?_;rfl) rfl om om (by intro z hz;simp only [Lb,Lj,or_false] at hz;rcases hz with rfl|rfl|rfl<;>exact⟨rfl,rfl,rfl⟩) rfl (by intro z hz;simp only [Lb,Lj,or_false] at hz;rcases hz with rfl|rfl|rfl<;>simp [Op.operands]) (Qm (Lf ..) Qf) (fun g9 gI=> ?_) (.inr ⟨rfl,rfl⟩)
 replace gI:=Qa.ay gI
 dsimp only [Qa.ne] at gI
 refine Xw (oj ah gI) ?_
 refine Qj (List.Perm.swap _ _ _) ?_
 refine Ih (f':=Qi [Qy,g.name,XB g.kind]) (fun j hj=>by match j,hj with|0,_=>rw [X0];rfl|1,_=>rw [X0];rfl|2,_=>rw [X0];rfl) ?_
 by_cases c2:g.kind=2
 ·have d2:(g.kind==2)=true:=by simpa using c2
  have f2:=hk c2 C hT
  have eL:Zo g=[Qy,g.name,XB g.kind]++[Zz g.k]++g.ak:=by unfold Zo;rw [iP c2];rfl
  have eX:ZZ g=Yw ([Qy,g.name,XB g.kind]++[Zz g.k]++g.ak):=by rw [←eL];rfl
  all_goals try(have Z:=(oj ah (oj gI d2));(repeat' first|refine zV Z ?_|(refine tO Z (f2) ?_)|(refine wj Z (f2) ?_)|refine zH Z ?_ ?_<;>intro hb|fail);all_goals clear Z)
  refine Qj (h':=[(g1,.cells 71 7 (ao (Zi g)))]++gh (some g9) 9 (3*1) (Qi [Qy,g.name,XB g.kind])) (.refl _) ?_
  refine QT (og:=some g9) (n:=3) (size:=1) (f:=Qi [Qy,g.name,XB g.kind]) (v:=.c (.str (sB (Zz g.k)))) (f':=Qi ([Qy,g.name,XB g.kind]++[(Zz g.k)])) (pre:=[(g1,.cells 71 7 (ao (Zi g)))]) rfl rfl rfl rfl rfl rfl rfl (by exact XY) (by exact ZS) (by rfl) om om (zE (oj ah (oj gI d2))) om (fun e=>by cases e) (zE (oj ah (oj gI d2))) (by rfl) (by rfl) rfl qc om (by exact Gs [Qy,g.name,XB g.kind] (Zz g.k)) fun g19 fu=> ?_
  replace fu:=Qa.ay fu
  dsimp only [Qa.ne] at fu
  refine(?_:aw _ _ _ [(g1,.cells 71 7 (ao (Zi g))),(g19,.cells 9 4 (Qi ([Qy,g.name,XB g.kind]++[(Zz g.k)])))])
  have J1:=oj ah (oj gI (oj d2 fu))
  refine yS J1 ?_
  all_goals repeat' first|refine zV J1 ?_|refine zH J1 ?_ ?_<;>intro hb|fail
  refine Qj (h':=[(g1,.cells 71 7 (ao (Zi g)))]++gh (some g19) 9 (4*1) (Qi ([Qy,g.name,XB g.kind]++[Zz g.k]))) (.refl _) ?_
  refine Ax (size:=1) (n:=4) (k:=g.ak.length) (f:=Qi ([Qy,g.name,XB g.kind]++[Zz g.k])) (f2:=Qi g.ak) (f':=Qi (([Qy,g.name,XB g.kind]++[Zz g.k])++g.ak)) (og:=some g19) (pre:=[(g1,.cells 71 7 (ao (Zi g)))]) rfl rfl rfl (by exact XY) (by exact ZS) rfl om (zE J1) (fun e=>by cases e) (zE J1) (fun _=>.row) (fun j _=>YI _ j) rfl qc om (W9 ([Qy,g.name,XB g.kind]++[Zz g.k]) g.ak) fun dA cb ch=> ?_
  rw [show 4+g.ak.length=(([Qy,g.name,XB g.kind]++[Zz g.k])++g.ak).length from by simp;omega] at cb⊢
  rw [Ad]
  generalize ([Qy,g.name,XB g.kind]++[Zz g.k])++g.ak=W at*
  have fL:=Ov false W (by rw [←eL];exact hl)
  refine yS J1 ?_
  refine YY fun bf=> ?_
  refine Qr fL rfl rfl rfl (by refine yS J1 ?_;exact .c (O9 (pre:=[(g1,.cells 71 7 (ao (Zi g)))]) cb bf)) ?_
  refine Xw J1 ?_
  rw [eX]
  refine yT hC J1 ?_
  exact .one (.c (.str _))
 ·have d2:(g.kind==2)=false:=by simpa using c2
  by_cases c7:g.kind=7
  ·have d7:(g.kind==7)=true:=by simpa using c7
   have f2:=Ig g.aH hw
   have eL:Zo g=[Qy,g.name,XB g.kind]++[Y5 g.aH]++g.ak:=by unfold Zo;rw [iN c2,iP c7];rfl
   have eX:ZZ g=Yw ([Qy,g.name,XB g.kind]++[Y5 g.aH]++g.ak):=by rw [←eL];rfl
   refine Zg (oj ah (oj gI (oj d2 d7))) f2 ?_
   refine Qj (h':=[(g1,.cells 71 7 (ao (Zi g)))]++gh (some g9) 9 (3*1) (Qi [Qy,g.name,XB g.kind])) (.refl _) ?_
   refine QT (og:=some g9) (n:=3) (size:=1) (f:=Qi [Qy,g.name,XB g.kind]) (v:=.c (.str (sB (Y5 g.aH)))) (f':=Qi ([Qy,g.name,XB g.kind]++[(Y5 g.aH)])) (pre:=[(g1,.cells 71 7 (ao (Zi g)))]) rfl rfl rfl rfl rfl rfl rfl (by exact XY) (by exact ZS) (by rfl) om om (zE (oj ah (oj gI (oj d2 d7)))) om (fun e=>by cases e) (zE (oj ah (oj gI (oj d2 d7)))) (by rfl) (by rfl) rfl qc om (by exact Gs [Qy,g.name,XB g.kind] (Y5 g.aH)) fun g19 fu=> ?_
   replace fu:=Qa.ay fu
   dsimp only [Qa.ne] at fu
   refine(?_:aw _ _ _ [(g1,.cells 71 7 (ao (Zi g))),(g19,.cells 9 4 (Qi ([Qy,g.name,XB g.kind]++[(Y5 g.aH)])))])
   have J2:=oj ah (oj gI (oj d2 (oj d7 fu)))
   refine yS J2 ?_
   refine zA J2 ?_
   refine Qj (h':=[(g1,.cells 71 7 (ao (Zi g)))]++gh (some g19) 9 (4*1) (Qi ([Qy,g.name,XB g.kind]++[Y5 g.aH]))) (.refl _) ?_
   refine Ax (size:=1) (n:=4) (k:=g.ak.length) (f:=Qi ([Qy,g.name,XB g.kind]++[Y5 g.aH])) (f2:=Qi g.ak) (f':=Qi (([Qy,g.name,XB g.kind]++[Y5 g.aH])++g.ak)) (og:=some g19) (pre:=[(g1,.cells 71 7 (ao (Zi g)))]) rfl rfl rfl (by exact XY) (by exact ZS) rfl om (zE J2) (fun e=>by cases e) (zE J2) (fun _=>.row) (fun j _=>YI _ j) rfl qc om (W9 ([Qy,g.name,XB g.kind]++[Y5 g.aH]) g.ak) fun dA cb ch=> ?_
   rw [show 4+g.ak.length=(([Qy,g.name,XB g.kind]++[Y5 g.aH])++g.ak).length from by simp;omega] at cb⊢
   rw [Ad]
   generalize ([Qy,g.name,XB g.kind]++[Y5 g.aH])++g.ak=W at*
   have fL:=Ov false W (by rw [←eL];exact hl)
   refine yS J2 ?_
   refine YY fun bf=> ?_
   refine Qr fL rfl rfl rfl (by refine yS J2 ?_;exact .c (O9 (pre:=[(g1,.cells 71 7 (ao (Zi g)))]) cb bf)) ?_
   refine Xw J2 ?_
   rw [eX]
   refine yT hC J2 ?_
   exact .one (.c (.str _))
  ·have d7:(g.kind==7)=false:=by simpa using c7
   have eL:Zo g=[Qy,g.name,XB g.kind]++g.ak:=by unfold Zo;rw [iN c2,iN c7];rfl
   have eX:ZZ g=Yw ([Qy,g.name,XB g.kind]++g.ak):=by rw [←eL];rfl
   refine zA (oj ah (oj gI (oj d2 d7))) ?_
   refine Qj (h':=[(g1,.cells 71 7 (ao (Zi g)))]++gh (some g9) 9 (3*1) (Qi [Qy,g.name,XB g.kind])) (.refl _) ?_
   refine Ax (size:=1) (n:=3) (k:=g.ak.length) (f:=Qi [Qy,g.name,XB g.kind]) (f2:=Qi g.ak) (f':=Qi ([Qy,g.name,XB g.kind]++g.ak)) (og:=some g9) (pre:=[(g1,.cells 71 7 (ao (Zi g)))]) rfl rfl rfl (by exact XY) (by exact ZS) rfl om (zE (oj ah (oj gI (oj d2 d7)))) (fun e=>by cases e) (zE (oj ah (oj gI (oj d2 d7)))) (fun _=>.row) (fun j _=>YI _ j) rfl qc om (W9 [Qy,g.name,XB g.kind] g.ak) fun dA cb ch=> ?_
   rw [show 3+g.ak.length=([Qy,g.name,XB g.kind]++g.ak).length from by simp;omega] at cb⊢
   rw [Ad]
   generalize [Qy,g.name,XB g.kind]++g.ak=W at*
   have fL:=Ov false W (by rw [←eL];exact hl)
   have J3:=oj ah (oj gI (oj d2 d7))
   refine yS J3 ?_
   refine YY fun bf=> ?_
   refine Qr fL rfl rfl rfl (by refine yS J3 ?_;exact .c (O9 (pre:=[(g1,.cells 71 7 (ao (Zi g)))]) cb bf)) ?_
   refine Xw J3 ?_
   rw [eX]
   refine yT hC J3 ?_
   exact .one (.c (.str _))
theorem Ii (g:Xk) (jn: -9223372036854775808≤g.kind) (pU:g.kind<9223372036854775808) (hk:g.kind=2→0≤g.k∧g.k<100) (hw:g.aH.wf 100000) (hl:(Zo g).length+VK (Zo g) (Zo g).length≤10000000000):Fa prog 25 [.agg (Zi g)] (.c (.str (sB (ZZ g)))):=
 Qv9 (G4 (T:=fun _ _=>True) g jn pU (fun h C _=>by
  obtain⟨n,hn⟩:∃n:Nat,g.k=(n:Int):=⟨g.k.toNat,by have:=hk h;omega⟩
  have f2:=QsR n (by have:=hk h;omega)
  rw [hn,show Zz (n:Int)=Ve n by unfold Zz;rw [iN om];rfl]
  exact f2.lk) hw hl)
end Go.Proofs.YtjegkdadeghpjaaGreatDoor
namespace Go.AI
theorem Tb {P:Program} {fits:TypeId→Bool} {d count:Nat} {e:TypeId} (h1:1≤count) (h:rowAt P fits d e 1 0 1=true):rowAt P fits d e count 0 1=true:=by
 cases d with
 |zero=>cases h
 |succ d=>
  unfold rowAt at h⊢
  dsimp only at h⊢
  by_cases hs:P.cellsOf e=0
  ·rw [iP hs] at h;cases h
  ·rw [iN hs] at h⊢
   rw [Bool.or_eq_true] at h⊢
   rcases h with h|h
   ·left
    simp only [Ba,Dq] at h⊢
    exact⟨⟨h.1.1,by omega⟩,h.2⟩
   ·right
    rw [Ba] at h⊢
    exact⟨by rw [Dq,Nat.zero_div];omega,h.2⟩
theorem SV {P:Program} {e u:TypeId} {count:Nat} (h1:1≤count) (h:rowAt P (fun x=>sameLayout P P.depth x u) P.depth e 1 0 1=true):liesAt P P.depth e count 0 u 1=true:=by
 have hd:P.depth=(2*(P.types.size+Made.depth)+1)+1:=rfl
 have h2:=Tb h1 h
 rw [hd]
 simp only [liesAt,Bool.or_eq_true]
 exact .inl h2
end Go.AI
namespace Go.Proofs.YtjegkdadeghpjaaGreatDoor
open Go.AI Go.PN Proofs.Tryz
attribute [local irreducible] aw Fa VA Vk Fh YO
theorem N6 (lo:Bool):qJ 172 [.bool lo]:=⟨fun count h=>SV h kR,by kernel_rfl,rfl⟩
theorem x6 (lo:Bool) (gB:Nat) (a:CV) (og:Option Nat) (B l:List UInt8) (lF:lx a gB og B) (hlen:B.length+l.length+1≤100000000000):
  Fh prog 102 (ec 172 [.bool lo] gB a og B) [.c (.aj gB 0),.c (.str (sB l))]
   (fun x h=>∃dA,lx (.aj gB 0) gB dA (B++l++[10])∧x=.aF []∧h=ec 172 [.bool lo] gB (.aj gB 0) dA (B++l++[10])):=by
 refine fH func102 fun C hC=>?_
 refine xG ?_
 refine Qq (hc:=ec 172 [.bool lo] gB a og B) (hr:=[]) (wy (N6 lo) gB a og B l lF om) rfl rfl rfl (by rw [Lp]) eL ?_
 rintro _ _ ⟨oX,h1,rfl,rfl⟩ _
 rw [Lp]
 refine ZA ?_
 refine Qq (hc:=ec 172 [.bool lo] gB (.aj gB 0) oX (B++l)) (hr:=[]) (Qno (N6 lo) gB _ oX (B++l) 10 h1 (by rw [La];omega)) rfl rfl rfl (by rw [Lp]) eL ?_
 rintro _ _ ⟨ej,h2,rfl,rfl⟩ _
 rw [Lp]
 refine ZA ?_
 refine xV ?_
 exact⟨ej,h2,rfl,rfl⟩
theorem Gt (lo:Bool) (gB:Nat) (a b:CV) (r:RD) (hw:r.wf 100000):
  Fh prog 105 [Yr 172 [.bool lo] gB a b] [.c (.aj gB 0),.agg (YS r)]
   (fun x h=>x=.c (.str (sB (Y5 r)))∧h=[Yr 172 [.bool (lo||XG r)] gB a b]):=by
 have f1:=Ig r hw
 refine fH func105 fun C hC=>?_
 refine xG ?_
 refine xB fun g3 av=>?_
 repeat' first|refine zV av ?_|refine yQ av f1 ?_|refine zH av ?_ ?_<;>intro hb|fail
 ·subst hb
  refine QS (h':=[Yr 172 [.bool true] gB a b]) rfl sL fun R r=>?_;simp only[go_sem,av];refine r _ rfl ?_;clear r R
  exact⟨rfl,rfl⟩
 ·subst hb
  refine QS (h':=[Yr 172 [.bool (XG r)] gB a b]) rfl sL fun R r=>?_;simp only[go_sem,av];refine r _ rfl ?_;clear r R
  exact⟨rfl,rfl⟩
theorem Qqe (lo:Bool) (gB:Nat) (a b:CV) (g:Xk) (jn: -9223372036854775808≤g.kind) (pU:g.kind<9223372036854775808) (hk:g.kind=2→0≤g.k∧g.k<100) (hw:g.aH.wf 100000) (hl:(Zo g).length+VK (Zo g) (Zo g).length≤10000000000):
  Fh prog 104 [Yr 172 [.bool lo] gB a b] [.c (.aj gB 0),.agg (Zi g)]
   (fun x h=>x=.c (.str (sB (ZZ g)))∧h=[Yr 172 [.bool (lo||(decide (g.kind=7)&&XG g.aH))] gB a b]):=by
 have f1:=Ii g jn pU hk hw hl
 refine fH func104 fun C hC=>?_
 refine xG ?_
 refine xB fun g3 av=>?_
 by_cases c7:g.kind=7
 ·have d7:(g.kind==7)=true:=by simpa using c7
  have e7:(lo||(decide (g.kind=7)&&XG g.aH))=(lo||XG g.aH):=by rw [Dt c7];rfl
  rw [e7]
  refine zA (oj av d7) ?_
  refine Qq (hc:=[Yr 172 [.bool lo] gB a b]) (hr:=[(g3,.cells 71 7 (ao (Zi g)))]) (Gt lo gB a b g.aH hw) rfl rfl rfl (List.Perm.swap _ _ _) (zL (oj av d7)) ?_
  rintro _ _ ⟨rfl,rfl⟩ _
  refine(?_:aw _ _ _ [Yr 172 [.bool (lo||XG g.aH)] gB a b,(g3,.cells 71 7 (ao (Zi g)))])
  refine yS (oj av d7) ?_
  refine Zg (oj av d7) f1 ?_
  refine Qj (List.Perm.swap _ _ _) ?_
  refine QS (h':=[Yr 172 [.bool (lo||XG g.aH)] gB a b]) rfl sL fun R r=>?_;simp only[go_sem,av,d7];refine r _ rfl ?_;clear r R
  exact⟨rfl,rfl⟩
 ·have d7:(g.kind==7)=false:=by simpa using c7
  have e7:(lo||(decide (g.kind=7)&&XG g.aH))=lo:=by rw [De c7];simp
  rw [e7]
  refine Zg (oj av d7) f1 ?_
  refine QS (h':=[Yr 172 [.bool lo] gB a b]) rfl sL fun R r=>?_;simp only[go_sem,av,d7];refine r _ rfl ?_;clear r R
  exact⟨rfl,rfl⟩
end Go.Proofs.YtjegkdadeghpjaaGreatDoor
namespace Go.AI
section
variable {E : Vj} {K : List It} {l : List Oper} {FP FP' : Qa} {σ σ' : Sl} {h : Qa} {o : Oper}
theorem Wi {i mk:Nat} {cs:List (Nat×Nat)} {t e size bytes n k m g:Nat} {z:List CV} {f f2:Nat→CV} {s x:Operand} {cx:CV} {h2:Qa} (ho:l[i]?=some o) (au:o.op=.call {callee:=.builtin .append,args:= #[s,x],argTypes:= #[t,t]}) (hw:Qu l σ o=some true) (hd:Qs E.N o.dst=true)
  (ht:QP E.P t=some (e,size,bytes)) (hz:Qk E.P e=some z) (aY:z.length=size) (bw:0<size) (hs:ev σ s=.c (.aO g size 0 n)) (hg:h.get g=some (.cells e m f)) (hm:n*size≤m) (hx:ev σ x=.c cx) (cl:Src h size cx k f2) (df:∀j,j<k*size→(f2 j).aX=true) (hk:0<k)
  (dn:n+k≤maxLen) (ed:(n+k)*bytes≤140737488355328) (tm:h.del g=h2) (fK:Kq FP' h2)
  (kk:∀g',g'∉h2.keys→CW E l K FP' cs (σ.az o.dst (.c (.aO g' size 0 (n+k)))) ((g',.cells e ((n+k)*size) (Xs f (n*size) f2))::h2)) (jI:mk=2∨mk=1∧FP'=FP:=by first|exact .inl rfl|exact .inr ⟨rfl,rfl⟩):CW E l K FP ((i,mk)::cs) σ h:=by
 refine .k6 ho jI (R:=fun r hh=>∃g',g'∉h2.keys∧r=.c (.aO g' size 0 (n+k))∧hh=(g',.cells e ((n+k)*size) (Xs f (n*size) f2))::h2) (fun σ' K gw=> ?_) ?_ ?_
 ·exact YA au ((Xg gw).trans hw) hd ht hz aY bw ((XD (by rw [au];simp [Op.operands,Call.operands]) gw).trans hs) hg hm ((XD (by rw [au];simp [Op.operands,Call.operands]) gw).trans hx) cl df hk dn ed tm fun g' ch=>XP (Qb ⟨_,⟨g',ch,rfl,rfl⟩,rfl⟩)
 ·rintro r hh ⟨g',_,_,rfl⟩;exact fun p hp=>Lm _ (fK p hp)
 ·rintro r hh ⟨g',ch,rfl,rfl⟩;exact kk g' ch
end
end Go.AI
namespace Go.PN
open Go.AI
def eo (x:X7):List Zh:=[⟨kP,x.p⟩,⟨bm,x.fail⟩,⟨aI,x.rep⟩,⟨bl,rd (x.cost:Rat)⟩]
theorem Qwb (x:X7) (j:Nat) (hj:j<16):ao ((eo x).flatMap O3) j=VJ (eo x) j:=by
 match j,hj with
 |0,_|1,_|2,_|3,_|4,_|5,_|6,_|7,_|8,_|9,_|10,_|11,_|12,_|13,_|14,_|15,_=>rfl
 |n+16,h=>exact absurd h om
def KB (x:X7) (j:Nat):List BS:=[Xi,x.name]++((eo x).take j).flatMap fun v=>Ws v.event v.p
def Jp (lo:Bool) (x:X7) (j:Nat):Bool:=lo||((eo x).take j).any fun v=>decide (YZ v.p.q≠0)&&XG v.p
theorem Ij (x:X7) (j:Nat) (hj:j<4):(eo x).take (j+1)=(eo x).take j++[(eo x).getD j bE]:=by
 match j,hj with
 |0,_|1,_|2,_|3,_=>rfl
theorem AX (x:X7) (j:Nat) (hj:j<4):KB x (j+1)=KB x j++Ws ((eo x).getD j bE).event ((eo x).getD j bE).p:=by
 unfold KB
 rw [Ij x j hj,List.flatMap_append,←Lo]
 simp
theorem G5 (lo:Bool) (x:X7) (j:Nat) (hj:j<4):Jp lo x (j+1)=(Jp lo x j||(decide (YZ ((eo x).getD j bE).p.q≠0)&&XG ((eo x).getD j bE).p)):=by
 unfold Jp
 rw [Ij x j hj,List.any_append,←Bool.or_assoc]
 simp
theorem Ik (x:X7):∀j,j≤4→(KB x j).length≤2+2*j
 |0,_=>Ac _
 |j+1,h=>by
  have ih:=Ik x j om
  rw [AX x j om,La]
  have:(Ws ((eo x).getD j bE).event ((eo x).getD j bE).p).length≤2:=by unfold Ws;split<;>simp
  omega
theorem Qqf (x:X7):KB x 4=iC x:=by
 unfold KB iC eo
 simp [List.flatMap_cons]
end Go.PN
namespace Go.Proofs.YtjegkdadeghpjaaGreatDoor
open Go.AI Go.PN Proofs.Tryz
theorem QuH (x:X7) (hp:x.p.wf 100000) (hf:x.fail.wf 100000) (hr:x.rep.wf 100000) (oA: -9223372036854775808≤x.cost) (kb:x.cost<9223372036854775808) (j:Nat) (hj:j<4):((eo x).getD j bE).p.wf 100000:=by
 match j,hj with
 |0,_=>exact hp
 |1,_=>exact hf
 |2,_=>exact hr
 |3,_=>
  refine XZ (L:=2) (JH ⟨?_,by simp⟩) om
  rw [show((x.cost:Int):Rat).num=x.cost from by simp]
  show _<18446744073709551616
  omega
attribute [local irreducible] aw Fa VA Vk Fh YO
theorem Qny (lo:Bool) (gB:Nat) (a b:CV) (x:X7) (hp:x.p.wf 100000) (hf:x.fail.wf 100000) (hr:x.rep.wf 100000) (oA: -9223372036854775808≤x.cost) (kb:x.cost<9223372036854775808) (hl:(iC x).length+VK (iC x) (iC x).length≤10000000000):
  Fh prog 103 [Yr 172 [.bool lo] gB a b] [.c (.aj gB 0),.agg (OD x)]
   (fun r h=>r=.c (.str (sB (Yw (iC x))))∧h=[Yr 172 [.bool (Jp lo x 4)] gB a b]):=by
 refine fH func103 fun C hC=>?_
 refine xG ?_
 refine xB fun g3 av=>?_
 refine zA av ?_
 refine Qw (xs:=[.const (.string (sB Xi)),.tmp 9]) (cells:=[.str (sB Xi),.str (sB x.name)]) rfl rfl rfl (zE av) (by refine yS av ?_;rfl) rfl om om (by intro z hz;simp only [Lb,Lj,or_false] at hz;rcases hz with rfl|rfl<;>exact⟨rfl,rfl,rfl⟩) rfl fun g10 bk=> ?_
 replace bk:=Qa.ay bk
 dsimp only [Qa.ne] at bk
 have J1:=oj av bk
 refine Xw J1 ?_
 refine Yl [(g3,.cells 101 11 (ao (OD x)))] [(0,0),(1,0),(2,0),(3,0),(4,0),(5,0),(6,0),(7,0),(8,0),(9,0),(10,0),(11,0),(12,0),(15,0),(13,1),(14,0)] Qg kR qa ?_
 refine yG J1 ?_
 refine X9 rfl (uq x.cost oA om) rfl rfl rfl (fun _ _=>(zL J1)) ?_
 refine Xw J1 ?_
 refine Qv (xs:=[.tmp 13,.tmp 16,.tmp 19,.tmp 23]) (cells:=(eo x).flatMap O3) rfl rfl rfl rfl (zE J1) (by refine yS J1 ?_;rfl) rfl om om (by intro z hz;simp only [Lb,Lj,or_false] at hz;rcases hz with rfl|rfl|rfl|rfl<;>exact⟨rfl,rfl,rfl⟩) rfl (by intro z hz;simp only [Lb,Lj,or_false] at hz;rcases hz with rfl|rfl|rfl|rfl<;>simp [Op.operands]) qa (fun g24 fv=> ?_) (.inr ⟨rfl,rfl⟩)
 replace fv:=Qa.ay fv
 dsimp only [Qa.ne] at fv
 have J2:=oj av (oj bk fv)
 refine Xw J2 ?_
 refine QY (f':=VJ (eo x)) (fun j hj=>Qwb x j hj) ?_
 refine Ih (f':=Qi (KB x 0)) (fun j hj=>by match j,hj with|0,_=>rw [X0];rfl|1,_=>rw [X0];rfl) ?_
 refine Qh (fun z:Nat×Nat=>[(0,.c (.aj gB 0)),(5,.c (.aO z.2 1 0 (KB x z.1).length)),(24,.c (.aO g24 4 0 4)),(25,.c (.int .i64 4)),(26,.c (.int .i64 z.1))]) (fun z=>[(g24,.cells 228 16 (VJ (eo x))),(z.2,.cells 9 (KB x z.1).length (Qi (KB x z.1))),Yr 172 [.bool (Jp lo x z.1)] gB a b]) (fun z=>z.1≤4) (fun z=>4-z.1) (0,g10) (zB J2) (by dsimp only;exact .cons_cons _ (.cons_cons _ (.cons _ (by unfold Jp;simp)))) (Lz _) ?_
 rintro ⟨j,g⟩ hj
 dsimp only at hj⊢
 refine YY fun bf=> ?_
 by_cases oF:j<4
 ·have d1:decide (j<4)=true:=Dt oF
  have Rj:((eo x).getD j bE).p.wf 100000:=QuH x hp hf hr oA kb j oF
  have hv:((eo x).getD j bE).p.wf 1073741824:=XZ Rj om
  have fs:=H4 _ hv
  simp only [Qa.keys,Ld,List.map_nil,List.nodup_cons,Lb,Lj,or_false,not_or] at bf
  obtain⟨⟨a1,a2⟩,a3,_⟩:=bf
  have b1:=eq_false a1
  have b2:=eq_false a2
  have b3:=eq_false a3
  have b4:=eq_false (Ne.symm a1)
  have b5:=eq_false (Ne.symm a2)
  have b6:=eq_false (Ne.symm a3)
  refine Zg (oj av (oj bk (oj fv (oj d1 (oj b1 (oj b2 (oj b3 (oj b4 (oj b5 b6))))))))) fs ?_
  refine yA (oj av (oj bk (oj fv (oj d1 (oj b1 (oj b2 (oj b3 (oj b4 (oj b5 b6))))))))) fun g7 da=>?_
  all_goals try(have Z:=(oj av (oj bk (oj fv (oj d1 (oj b1 (oj b2 (oj b3 (oj b4 (oj b5 (oj b6 da))))))))));(repeat' first|refine zV Z ?_|refine yQ Z fs ?_|refine zH Z ?_ ?_<;>intro hb|fail);all_goals clear Z)
  ·have eW:KB x (j+1)=KB x j++[((eo x).getD j bE).event,Y5 ((eo x).getD j bE).p]:=by rw [AX x j oF];unfold Ws;rw [iN hb]
   have eL:Jp lo x (j+1)=(Jp lo x j||XG ((eo x).getD j bE).p):=by rw [G5 lo x j oF,Dt hb];rfl
   have ET:=Ik x j hj
   have kn:=Gt (Jp lo x j) gB a b ((eo x).getD j bE).p Rj
   generalize (eo x).getD j bE=v at*
   refine Yl [(g7,.cells 228 4 (ao (O3 v)))] [(0,0),(1,0),(2,0),(3,0),(4,0),(5,0),(6,1),(7,1),(8,1),(9,0)] Qg kR qa ?_
   have J3:=oj av (oj bk (oj fv (oj d1 (oj b1 (oj b2 (oj b3 (oj b4 (oj b5 (oj b6 da)))))))))
   refine yG J3 ?_
   refine Ur (hc:=[Yr 172 [.bool (Jp lo x j)] gB a b]) (hr:=[(g7,.cells 228 4 (ao (O3 v))),(g24,.cells 228 16 (VJ (eo x))),(g,.cells 9 (KB x j).length (Qi (KB x j)))]) rfl kn rfl rfl rfl (List.perm_append_comm (l₁:=[_,_,_]) (l₂:=[_])) (zL J3) (fun _ _ hq=>by obtain⟨_,rfl⟩:=hq;exact Qm (by simp) Qf) ?_ (hm:=.inr ⟨rfl,rfl⟩)
   rintro _ _ ⟨rfl,rfl⟩ _
   refine Xw J3 ?_
   refine Qv (xs:=[.tmp 36,.tmp 40]) (cells:=[.str (sB v.event),.str (sB (Y5 v.p))]) rfl rfl rfl rfl (zE J3) (by refine yS J3 ?_;rfl) rfl om om (by intro z hz;simp only [Lb,Lj,or_false] at hz;rcases hz with rfl|rfl<;>exact⟨rfl,rfl,rfl⟩) rfl (by intro z hz;simp only [Lb,Lj,or_false] at hz;rcases hz with rfl|rfl<;>simp [Op.operands]) qa (fun Pk oU=> ?_) (.inr ⟨rfl,rfl⟩)
   replace oU:=Qa.ay oU
   dsimp only [Qa.ne] at oU
   have J4:=oj av (oj bk (oj fv (oj d1 (oj b1 (oj b2 (oj b3 (oj b4 (oj b5 (oj b6 (oj da oU))))))))))
   refine Xw J4 ?_
   refine Wi (size:=1) (n:=(KB x j).length) (k:=2) (m:=(KB x j).length) (g:=g) (f:=Qi (KB x j)) (f2:=Qi [v.event,Y5 v.p]) (cx:=.aO Pk 1 0 2) (h2:=[(Pk,.cells 9 2 (ao [.str (sB v.event),.str (sB (Y5 v.p))])),Yr 172 [.bool (Jp lo x j||XG v.p)] gB a b,(g7,.cells 228 4 (ao (O3 v))),(g24,.cells 228 16 (VJ (eo x)))]) rfl rfl rfl rfl (by exact XY) (by exact ZS) rfl om (zE J4) (zE J4) om (zE J4)
    (.aO (m:=2) (ty:=9) (f':=ao [.str (sB v.event),.str (sB (Y5 v.p))]) (zE J4) om (fun q hq=>by match q,hq with|0,_=>rw [X0];rfl|1,_=>rw [X0];rfl)) (fun q _=>YI _ q) om qc om (zE J4) qa (fun Pl n_42=> ?_) (.inr ⟨rfl,rfl⟩)
   refine Xw J4 ?_
   refine Xa (h':=[(Pl,.cells 9 ((KB x j).length+2) (Xs (Qi (KB x j)) (KB x j).length (Qi [v.event,Y5 v.p]))),Yr 172 [.bool (Jp lo x j||XG v.p)] gB a b,(g24,.cells 228 16 (VJ (eo x)))]) (Sl.le_refl _) (.cons_cons _ (.cons _ (.cons_cons _ (.cons _ (.cons_cons _ .slnil))))) ?_
   refine QY (f':=Qi (KB x (j+1))) (fun q hq=>by rw [eW];have:=W9 (KB x j) [v.event,Y5 v.p] q (by simpa using hq);simpa using this) ?_
   rw [show(KB x j).length+2=(KB x (j+1)).length from by rw [eW];simp]
   refine Qj (List.perm_append_comm (l₁:=[_,_]) (l₂:=[_])) ?_
   exact Qb ⟨(j+1,Pl),by dsimp only;omega,(zB J4),by dsimp only;rw [eL];exact Lr _,by dsimp only;omega⟩
  ·have eW:KB x (j+1)=KB x j:=by rw [AX x j oF];unfold Ws;rw [iP hb,Lp]
   have eL:Jp lo x (j+1)=Jp lo x j:=by rw [G5 lo x j oF,De (fun e=>e hb)];simp
   refine Qb ⟨(j+1,g),by dsimp only;omega,?_,?_,by dsimp only;omega⟩
   ·dsimp only;rw [eW];exact(zB (oj av (oj bk (oj fv (oj d1 (oj b1 (oj b2 (oj b3 (oj b4 (oj b5 (oj b6 da)))))))))))
   ·dsimp only;rw [eW,eL];exact Ls _ _
 ·have d1:decide (j<4)=false:=De oF
  have e4:j=4:=by omega
  subst e4
  rw [Qqf]
  have fL:=Ov false (iC x) hl
  refine zA (oj av (oj bk (oj fv d1))) ?_
  refine Qj (h':=[(g24,.cells 228 16 (VJ (eo x))),Yr 172 [.bool (Jp lo x 4)] gB a b]++gh (some g) 9 (iC x).length (Qi (iC x))) (List.Perm.cons _ (List.Perm.swap _ _ _)) ?_
  refine YY fun rM=> ?_
  refine Qr fL rfl rfl rfl (by refine yS (oj av (oj bk (oj fv d1))) ?_;exact .c (O9 (og:=some g) (pre:=[(g24,.cells 228 16 (VJ (eo x))),Yr 172 [.bool (Jp lo x 4)] gB a b]) (fun e=>by cases e) rM)) ?_
  have J5:=oj av (oj bk (oj fv d1))
  refine Xw J5 ?_
  refine Xa (h':=[Yr 172 [.bool (Jp lo x 4)] gB a b]) (Sl.le_refl _) (.cons _ (.cons_cons _ (.cons _ .slnil))) ?_
  refine yU J5 ?_
  exact⟨rfl,rfl⟩
end Go.Proofs.YtjegkdadeghpjaaGreatDoor
namespace Go.PN
open Go.AI
variable {β : Type}
def Wd (w:BS) (ts:List TK):Prop:=∀l us,NW l→Lx l us→Lx (w++l) (ts++us)
inductive WL:List BS→List TK→Prop where
 |nil:WL [] []
 |cons {w:BS} {t:List TK} {ws:List BS} {ts:List TK}:Wd w t→WL ws ts→WL (w::ws) (t++ts)
theorem WL.app {ws vs:List BS} {ts us:List TK} (h:WL ws ts) (h2:WL vs us):WL (ws++vs) (ts++us):=by
 induction h with
 |nil=>exact h2
 |cons hw _ ih=>rw [Lq,Lo];exact .cons hw ih
end Go.PN
namespace Go.Proofs.YtjegkdadeghpjaaGreatDoor
open Go.AI Go.PN Proofs.Tryz
attribute [local irreducible] aw Fa VA Vk Fh YO
theorem Tc (m:Qz) (k:Nat) (n:BS) (hk:k≤m.aa.length) (hm:gZ m) (cZ:pj m) (h0:0<n.length) (hn:n.length≤1099511627776) (zx:XE n 0=64→0≤O5 m (n.drop 1)):Fa prog 306 [.agg (Xo true m),.c (.int .i64 ((k:Int)-1)),.c (.str (sB n))] (tK (Jm m k n)):=by
 have dJ:=cZ.pl
 refine fA func306 fun C hC=>?_
 refine zA o0 ?_
 refine xB fun g1 ah=>?_
 refine zA ah ?_
 refine yA ah fun g2 aq=>?_
 all_goals try(have Z:=(oj ah aq);(repeat' first|refine zV Z ?_|refine zH Z ?_ ?_<;>intro hb|fail);all_goals clear Z)
 ·have eU:=hb
  obtain⟨q,hq⟩:∃q:Nat,O5 m (n.drop 1)=q:=⟨(O5 m (n.drop 1)).toNat,by have:=zx eU;omega⟩
  have fk:q<m.aa.length:=by
   have:=Cu (fun x:YT=>x.name==n.drop 1) m.aa
   rw [show Xj (fun x:YT=>x.name==n.drop 1) m.aa=(q:Int) from hq] at this
   omega
  have f1:=Cv m (Vn n 1 n.length) hm.pg
  rw [VG,show Xj (fun x:YT=>x.name==n.drop 1) m.aa=(q:Int) from hq,←VG] at f1
  have e1:Jm m k n=W7 m (q+1) (m.aa.getD q bj).top:=by
   unfold Jm s9 ta
   rw [iP eU,iP eU,hq]
   rfl
  rw [e1]
  have bY:=Kx cZ (q+1)
  have f4:=Vv m (q+1) om hm.pg
  rw [show((q+1:Nat):Int)-1=q from by omega] at f4
  refine Xl 5 Qg kR ?_
  refine Zg (oj ah aq) f1 ?_
  generalize hN:(m.aa.getD q bj).top=N at*
  have f2:=ZJ m N hm.ev
  have f3:=W3 m N hm.hs
  have f5:=uc (Qt m (q+1)) N om
  all_goals try(have Z:=(oj ah aq);(repeat' first|refine zV Z ?_|refine yQ Z f2 ?_|refine yQ Z f3 ?_|refine yQ Z f4 ?_|refine yQ Z f5 ?_|refine zH Z ?_ ?_<;>intro hb|fail);all_goals clear Z)
  ·refine yT hC (oj ah aq) ?_
   rw [show W7 m (q+1) N=(0,0,Vt m N) from iP hb]
   exact .one (.agg ⟨.int _ _,.int _ _,.int _ _,trivial⟩)
  ·rename_i h1
   refine yT hC (oj ah aq) ?_
   rw [show W7 m (q+1) N=(1,0,ey m N) from(iN h1).trans (iP hb)]
   exact .one (.agg ⟨.int _ _,.int _ _,.int _ _,trivial⟩)
  ·rename_i h1
   refine yT hC (oj ah aq) ?_
   rw [show W7 m (q+1) N=(2,(((q+1):Nat):Int)-1,fg (Qt m (q+1)) N) from(iN h1).trans (iN hb)]
   exact .one (.agg ⟨.int _ _,Qn (by dsimp only;omega),.int _ _,trivial⟩)
 ·have e1:Jm m k n=W7 m k n:=by
   unfold Jm s9 ta
   rw [iN hb,iN hb]
  rw [e1]
  clear e1 zx
  generalize n=N at*
  have bY:=Kx cZ k
  have f4:=Vv m k hk hm.pg
  have f2:=ZJ m N hm.ev
  have f3:=W3 m N hm.hs
  have f5:=uc (Qt m k) N om
  all_goals try(have Z:=(oj ah aq);(repeat' first|refine zV Z ?_|refine yQ Z f2 ?_|refine yQ Z f3 ?_|refine yQ Z f4 ?_|refine yQ Z f5 ?_|refine zH Z ?_ ?_<;>intro hb|fail);all_goals clear Z)
  ·refine yT hC (oj ah aq) ?_
   rw [show W7 m k N=(0,0,Vt m N) from iP hb]
   exact .one (.agg ⟨.int _ _,.int _ _,.int _ _,trivial⟩)
  ·rename_i h1
   refine yT hC (oj ah aq) ?_
   rw [show W7 m k N=(1,0,ey m N) from(iN h1).trans (iP hb)]
   exact .one (.agg ⟨.int _ _,.int _ _,.int _ _,trivial⟩)
  ·rename_i h1
   refine yT hC (oj ah aq) ?_
   rw [show W7 m k N=(2,((k:Nat):Int)-1,fg (Qt m k) N) from(iN h1).trans (iN hb)]
   exact .one (.agg ⟨.int _ _,.int _ _,.int _ _,trivial⟩)
end Go.Proofs.YtjegkdadeghpjaaGreatDoor
namespace Go.AI
def qI {α:Type} [DecidableEq α] (a:α) (v:Value):List (α×Value)→List (α×Value)
 |[]=>[]
 |p::kv=>if a=p.1 then(p.1,v)::kv else p::qI a v kv
theorem LU {α:Type} [DecidableEq α] {K:α→Value} (a:α) (v:Value):∀(kv:List (α×Value)) (es:List MapEntry) (n i:Nat) (x:Value),es.map (fun e=>(e.key,e.val))=kv.map (fun p=>(K p.1,p.2))→cP a (kv.map (·.1)) es n=some (i,x)→∃j,i=n+j∧(es[j]?).map (·.key)=some (K a)∧(es.modify j (fun e=>{e with key:=K a,val:=v})).map (fun e=>(e.key,e.val))=(qI a v kv).map (fun p=>(K p.1,p.2))
 |[],[],_,_,_,_,h=>by cases h
 |[],_::_,_,_,_,h,_=>by simp at h
 |_::_,[],_,_,_,h,_=>by simp at h
 |p::kv,e::es,n,i,x,h,hf=>by
  simp only [Ld,List.cons.injEq,Ab] at h
  simp only [Ld,cP] at hf
  split at hf
  ·rename_i ha
   injection hf with hf
   injection hf with h1 h2
   refine⟨0,h1.symm,?_,?_⟩
   ·simp [h.1.1,ha]
   ·simp only [qI,iP ha]
    simp [h.2,ha]
  ·rename_i ha
   obtain⟨j,hj,hk,hm⟩:=LU a v kv es (n+1) i x h.2 hf
   refine⟨j+1,by omega,by simpa using hk,?_⟩
   simp only [qI,iN ha]
   simp [hm,h.1.1,h.1.2]
section
variable {E : Vj} {K : List It} {σ σ' : Sl} {h : Qa} {all rest : List Oper} {o : Oper}
theorem Qnz {α:Type} [DecidableEq α] {Kf:α→Value} {t kt et g:TypeId} {kv:List (α×Value)} {x ky vl:Operand} {ck cv:AV} {a:α} {v:Value} (au:o.op=.mapUpdate t x ky vl) (hY:o.dst=none) (hw:Qu all σ o=some true)
  (ht:pr E.P t=some (kt,et)) (hK:pb E.P kt Kf) (lR:Instr.sameBits 10000 (Kf a) (Kf a)=true) (hx:ev σ x=.c (.raw (.map (some g)))) (hg:h.get g=some (.gen (JY Kf kv))) (hk:ev σ ky=ck) (iY:∀S w u,VY S w ck u→u=Kf a) (hv:ev σ vl=cv) (rZ:∀S w u,VY S w cv u→u=v)
  (hold:(ZG a kv).isSome=true) {h':Qa} (hh:h.set g (.gen (JY Kf (qI a v kv)))=h') (k:aw E (.ops all rest::K) σ h'):aw E (.ops all (o::rest)::K) σ h:=by
 subst hh
 refine Kj hw (fun ac w s=> ?_) k
 have h1:=QN s x
 rw [hx] at h1
 have cU:ac.eval x=.map (some g):=h1
 have h2:=QN s ky
 rw [hk] at h2
 have jB:=iY _ _ _ h2
 have h3:=QN s vl
 rw [hv] at h3
 have ox:=rZ _ _ _ h3
 obtain⟨ob,hb,es,c,rfl,lI⟩:=s.heap g _ (Qa.get_mem hg)
 have gi:es.toList.map (·.key)=(kv.map (·.1)).map Kf:=by
  have:=congrArg (List.map Prod.fst) lI
  rw [List.map_map,List.map_map] at this
  rw [List.map_map]
  exact this
 have gg:=hK.find a (kv.map (·.1)) es.toList w gi
 have de:=WT (K:=Kf) a kv es.toList 0 lI
 obtain⟨i,y,pZ⟩:∃i y,cP a (kv.map (·.1)) es.toList 0=some (i,y):=by
  cases hf:cP a (kv.map (·.1)) es.toList 0 with
  |none=>rw [hf] at de;rw [←de] at hold;cases hold
  |some p=>exact⟨p.1,p.2,rfl⟩
 obtain⟨j,hj,hkj,rK⟩:=LU (K:=Kf) a v kv es.toList 0 i y lI pZ
 rw [Nz] at hj
 subst hj
 have bY:g<w.heap.size:=(Array.getElem?_eq_some_iff.1 hb).1
 let w':World:={w with heap:=w.heap.setIfInBounds g (.map (es.modify i fun e=>{e with key:=Kf a,val:=v}) c)}
 have hki:((es[i]?).map (·.key)).getD (Kf a)=Kf a:=by
  rw [←Array.getElem?_toList,hkj];rfl
 have aR:(Instr.mapUpdate t (ac.eval x) (ac.eval ky) (ac.eval vl)).run E.P w=.ok () w':=by
  rw [cU,jB,ox]
  unfold Instr.mapUpdate
  simp only [Sem.run_bind,run_underlying (Ok ht),Result.andThen_ok,xM hb,hK.check,gg,pZ,hki]
  unfold Instr.keyThatStays
  rw [iP lR]
  simp only [Sem.run_pure,Result.andThen_ok,M7 _ hb]
  rfl
 refine⟨undef,w',.inr ⟨?_,rfl⟩,?_⟩
 ·simp only [execOp,au,Sem.run_bind,aR,Result.andThen_ok]
  rfl
 ·rw [hY]
  have bd:Fr (fun b=>b=g) w w':=by
   refine⟨rfl,rfl,rfl,by simp [w'],Ac _,fun b _ aK=> ?_,fun g' m hh=> ?_⟩
   ·simp only [w'];rw [Array.getElem?_setIfInBounds_ne (fun e=>aK e.symm)]
   ·obtain⟨cs,ty,⟨fr,hc⟩,hs⟩:=hh
    refine⟨cs,ty,⟨fr,?_⟩,hs⟩
    have aK:g'≠g:=fun e=>by rw [e,hb] at hc;cases hc
    simp only [w']
    rw [Array.getElem?_setIfInBounds_ne (fun e=>aK e.symm)];exact hc
  refine s.setObj hg bd ⟨_,by simp only [w'];rw [Array.getElem?_setIfInBounds_self_of_lt bY],_,_,rfl,?_⟩
  rw [Array.toList_modify]
  exact rK
end
end Go.AI
namespace Go.PN
open Go.AI
def Jz (t:Th):Value:=pq [t.1,t.2.1,t.2.2]
theorem Cg {P:Program} {kt:TypeId} (ht:mz P kt=some 3):pb P kt Jz:=by
 have h:=QrF ht
 have hj:∀a b:Th,((⟨[a.1,a.2.1,a.2.2],rfl⟩:{l:List Int//l.length=3})=⟨[b.1,b.2.1,b.2.2],rfl⟩)↔a=b:=fun a b=>by
  obtain⟨a1,a2,a3⟩:=a
  obtain⟨b1,b2,b3⟩:=b
  simp
 refine⟨fun b a w=>h.check b ⟨[a.1,a.2.1,a.2.2],rfl⟩ w,fun a ks es w he=> ?_⟩
 have:=h.find ⟨[a.1,a.2.1,a.2.2],rfl⟩ (ks.map fun k=>⟨[k.1,k.2.1,k.2.2],rfl⟩) es w (by rw [he,List.map_map];rfl)
 have e:∀(ks:List Th) (es:List MapEntry) (i:Nat),cP (⟨[a.1,a.2.1,a.2.2],rfl⟩:{l:List Int//l.length=3}) (ks.map fun k=>⟨[k.1,k.2.1,k.2.2],rfl⟩) es i=cP a ks es i:=by
  intro ks
  induction ks with
  |nil=>intro es i;rfl
  |cons k ks ih=>
   intro es i
   cases es with
   |nil=>rfl
   |cons x es=>
    simp only [Ld,cP,hj]
    rw [ih]
 rw [e] at this
 exact this
theorem QnA (t:Th):Instr.sameBits 10000 (Jz t) (Jz t)=true:=by
 show Instr.sameBits (9999+1) (Jz t) (Jz t)=true
 unfold Instr.sameBits Jz pq
 simp [Instr.sameBits]
def fo (st:List (Th×Int)):List (Th×Value):=st.map fun p=>(p.1,.int .i64 p.2)
theorem LV (t:Th):∀st:List (Th×Int),(ZG t (fo st)).getD (.int .i64 0)=.int .i64 (Y8 t st)
 |[]=>rfl
 |p::st=>by
  show(if t=p.1 then some (Value.int .i64 p.2) else ZG t (fo st)).getD (.int .i64 0)=Value.int .i64 (if t=p.1 then p.2 else Y8 t st)
  split
  ·rfl
  ·exact LV t st
theorem Il {t:Th}:∀{st:List (Th×Int)},t∉st.map (·.1)→ZG t (fo st)=none
 |[],_=>rfl
 |p::st,h=>by
  show(if t=p.1 then some (Value.int .i64 p.2) else ZG t (fo st))=none
  rw [iN (fun e=>h (by rw [e];exact Lf))]
  exact Il fun z=>h (Lm _ z)
theorem Im {t:Th}:∀{st:List (Th×Int)},t∈st.map (·.1)→(ZG t (fo st)).isSome=true
 |p::st,h=>by
  show(if t=p.1 then some (Value.int .i64 p.2) else ZG t (fo st)).isSome=true
  split
  ·rfl
  ·rename_i e
   exact Im ((Lb.1 h).resolve_left e)
theorem LW (t:Th) (v:Int):∀st:List (Th×Int),qI t (.int .i64 v) (fo st)=fo (UN t v st)
 |[]=>rfl
 |p::st=>by
  show(if t=p.1 then _ else _)=fo (if t=p.1 then _ else _)
  split
  ·rfl
  ·show _::qI t (.int .i64 v) (fo st)=_::fo (UN t v st)
   rw [LW t v st]
theorem QsS (st:List (Th×Int)) (t:Th) (v:Int):fo st++[(t,.int .i64 v)]=fo (st++[(t,v)]):=by
 unfold fo;rw [List.map_append];rfl
theorem QsT {S:Bool→Nat→Prop} {w:World} {t:Th} {v:Value} (h:VY S w (tK t) v):v=Jz t:=by
 obtain⟨cs,rfl,h⟩:=h
 match cs,h with
 |[a,b,c],⟨h1,h2,h3,_⟩=>
  have h1:a=_:=h1
  have h2:b=_:=h2
  have h3:c=_:=h3
  subst h1 h2 h3
  rfl
structure Da (m:Qz):Prop where
 ok:Go.Proofs.YtjegkdadeghpjaaGreatDoor.gZ m
 w2:pj m
 ins:yL m
 len:∀k i j,(((Qt m k).getD i aU).ak.getD j []).length≤1099511627776
end Go.PN
namespace Go.Proofs.YtjegkdadeghpjaaGreatDoor
open Go.AI Go.PN Proofs.Tryz
attribute [local irreducible] aw Fa VA Vk Fh YO
theorem BZ:pr prog 252=some (255,3):=by kernel_rfl
theorem AY:mz prog 255=some 3:=by kernel_rfl
theorem QsU:tJ prog 3=some (.int .i64 0):=by kernel_rfl
abbrev Pg (f:FuncId):AV:=.c (.raw (.func (.func f) #[] #[]))
theorem QsV (m:Qz) (hc:Da m) (fE:FuncId) (hE:∀t:Th,Fa prog fE [tK t] (.aF [])) (g:Nat):∀(n:Nat) (st:List (Th×Int)) (stk fin:List Th) (t:Th),du Y9 (VU m) (Q5 m) st stk fin→(Q5 m).length<n+st.length→(Y9 t=true∨t∈Q5 m)→(∀h,stk.head?=some h→t∈VU m h)→
  Fg prog 204 g (.gen (JY Jz (fo st))) [.agg (Xo true m),tK t,.c (.raw (.map (some g))),Pg fE] (.c (.bool (Y6 m n st t).1)) (.gen (JY Jz (fo (Y6 m n st t).2))):=by
 intro n
 induction n with
 |zero=>
  intro st stk fin t hi hn _ _
  have:=UP hi.nd hi.sub
  rw [Lw] at this
  omega
 |succ n ih=>
  intro st stk fin t hi hn ht hh
  have zb:=hE t
  unfold Fg
  by_cases hl:Y9 t=true
  ·have vJ:t.1≠2:=by unfold Y9 at hl;simpa using hl
   have hr:Y6 m (n+1) st t=(false,st):=by
    unfold Y6 UO
    rw [iP hl]
   rw [hr]
   refine fH func204 fun C hC=>?_
   refine zA o0 ?_
   refine xB fun g4 aC=>?_
   refine zA aC ?_
   refine yB aC fun g5 aM=>?_
   all_goals try(have Z:=(oj aC aM);(repeat' first|refine zV Z ?_|refine zH Z ?_ ?_<;>intro hb|fail);all_goals clear Z)
   ·refine Bk zb rfl rfl rfl (zE (oj aC aM)) (zL (oj aC aM)) ?_
    refine yS (oj aC aM) ?_
    refine zA (oj aC aM) ?_
    refine QS (h':=[(g,.gen (JY Jz (fo st)))]) rfl sL fun R r=>?_;simp only[go_sem,aC,aM];refine r _ rfl ?_;clear r R
    exact⟨rfl,rfl⟩
   ·exfalso;exact vJ hb
  have p6:t∈Q5 m:=ht.resolve_left hl
  have hsuc:∀x∈VU m t,Y9 x=true∨x∈Q5 m:=K7 hc.ins t p6
  have hw:=tU Wg (K7 hc.ins) (n+1) st stk fin t hi hn ht hh
  obtain⟨k,i,hk,eH,he⟩:=Vx.1 p6
  have fV:(Qt m k).getD i aU=pz m t:=by
   rw [he]
   unfold pz
   dsimp only
   rw [show((k:Int)-1+1).toNat=k from by omega,Int.toNat_natCast]
  have eV:(t.2.1+1).toNat=k:=by rw [he];dsimp only;omega
  have rX:tK t=.agg [.int .i64 2,.int .i64 ((k:Int)-1),.int .i64 (i:Int)]:=by rw [he]
  have ea:Y6 m (n+1) st t=(if Y8 t st=1 then(true,st) else if Y8 t st=2 then(false,st) else
   if(iD (Y6 m n) (VU m t) (st++[(t,1)])).1=true then iD (Y6 m n) (VU m t) (st++[(t,1)]) else(false,UN t 2 (iD (Y6 m n) (VU m t) (st++[(t,1)])).2)):=by
   show UO Y9 (VU m) (n+1) st t=_
   unfold UO
   rw [iN hl]
   rfl
  rw [ea]
  have DO:∀{S:Bool→Nat→Prop} {w:World} {v:Value},VY S w (.agg [.int .i64 2,.int .i64 ((k:Int)-1),.int .i64 (i:Int)]) v→v=Jz t:=fun h=>QsT (by rw [rX];exact h)
  have cq:VU m t=(pz m t).ak.map (Jm m k):=by unfold VU;rw [eV]
  have bV:=hc.ins k hk i eH
  have hlen:=hc.len k i
  have cZ:=hc.w2
  have hil2:(pz m t).ak.length≤1099511627776:=by rw [←fV];exact(cZ.gt k i).2.2
  have tl:=Kx cZ k
  rw [rX] at zb
  rw [rX]
  refine fH func204 fun C hC=>?_
  refine zA o0 ?_
  refine xB fun g4 aC=>?_
  refine zA aC ?_
  refine yB aC fun g5 aM=>?_
  refine zA (oj aC aM) ?_
  refine QmK (a:=t) (kv:=fo st) (Kf:=Jz) (z:=.int .i64 0) rfl rfl rfl BZ (Cg AY) QsU (zE (oj aC aM)) (zE (oj aC aM)) (zE (oj aC aM)) (fun _ _ _ h=>DO h) ?_
  rw [LV]
  dsimp only [Oz]
  refine yS (oj aC aM) ?_
  all_goals try(have Z:=(oj aC aM);(repeat' first|refine zV Z ?_|refine zH Z ?_ ?_<;>intro hb|fail);all_goals clear Z)
  ·refine QS (h':=[(g,.gen (JY Jz (fo st)))]) rfl sL fun R r=>?_;simp only[go_sem,aC,aM];refine r _ rfl ?_;clear r R
   rw [iP hb]
   exact⟨rfl,rfl⟩
  ·rename_i h1
   refine QS (h':=[(g,.gen (JY Jz (fo st)))]) rfl sL fun R r=>?_;simp only[go_sem,aC,aM];refine r _ rfl ?_;clear r R
   rw [iN h1,iP hb]
   exact⟨rfl,rfl⟩
  rename_i h1
  have h2:=hb
  rw [iN h1,iN h2]
  have jc:t∉st.map (·.1):=fun h=>((hi.key t).1 h).elim (fun z=>h1 ((hi.j8 t).2 z)) fun z=>h2 ((hi.black t).2 z)
  refine K2 (a:=t) (kv:=fo st) (Kf:=Jz) (v:=.int .i64 1) rfl rfl rfl BZ (Cg AY) (zE (oj aC aM)) (zE (oj aC aM)) (zE (oj aC aM)) (fun _ _ _ h=>DO h) (cv:=.c (.int .i64 1)) (zE (oj aC aM)) (fun _ _ _ h=>h) (Il jc) (zE (oj aC aM)) ?_
  rw [QsS]
  have J1:=oj aC aM
  refine yS J1 ?_
  refine zA J1 ?_
  refine Bk zb rfl rfl rfl (zE J1) (zL J1) ?_
  refine yS J1 ?_
  refine zA J1 ?_
  have f4:=Vv m k hk hc.ok.pg
  refine Xl 11 Qg kR ?_
  refine Zg J1 f4 ?_
  rw [fV]
  have vK:t∉fin:=fun z=>h2 ((hi.black t).2 z)
  have cA:=hi.push hl p6 jc vK hh
  have vx:(st++[(t,1)]).length=st.length+1:=by rw [La];rfl
  generalize hR:iD (Y6 m n) (VU m t) (st++[(t,1)])=R
  rw [fV] at bV hlen
  generalize hG:pz m t=G at*
  clear hw ea fV h1 h2 jc zb J1
  refine Qh (fun x:Nat×List (Th×Int)×List Th=>[(2,.c (.raw (.map (some g)))),(3,Pg fE),(4,.c (.aj g4 0)),(5,.c (.aj g5 0)),(37,.c (YH true G.ak)),(38,.c (.int .i64 G.ak.length)),(39,.c (.int .i64 x.1))]) (fun x=>[(g5,.cells 255 3 (ao [.int .i64 2,.int .i64 ((k:Int)-1),.int .i64 (i:Int)])),(g4,.cells 45 8 (ao (Xo true m))),(g,.gen (JY Jz (fo x.2.1)))]) (fun x=>x.1≤G.ak.length∧iD (Y6 m n) ((VU m t).drop x.1) x.2.1=R∧du Y9 (VU m) (Q5 m) x.2.1 (t::stk) x.2.2∧st.length+1≤x.2.1.length) (fun x=>G.ak.length-x.1) (0,st++[(t,1)],fin) (zB (oj aC aM)) zZ ⟨Lz _,hR,cA,by rw [vx];exact Ac _⟩ ?_
  rintro ⟨j,st1,jy⟩ ⟨hj,cC,kh,jW⟩
  dsimp only at hj cC kh jW⊢
  all_goals try(have Z:=(oj aC aM);(repeat' first|refine zV Z ?_|refine zH Z ?_ ?_<;>intro hb|fail);all_goals clear Z)
  ·have dO:=hb
   have lL:G.ak.getD j []∈G.ak:=by
    rw [Lg,Li dO];exact Le dO
   obtain⟨n1,n2,n3⟩:=bV _ lL
   have bZ:=hlen j
   have hx:(VU m t).drop j=Jm m k (G.ak.getD j [])::(VU m t).drop (j+1):=by
    rw [cq,List.drop_eq_getElem_cons (by rw [Lw];exact dO),List.getElem_map,Lg,Li dO];rfl
   rw [hx] at cC
   have Rr:Jm m k (G.ak.getD j [])∈VU m t:=by rw [cq];exact List.mem_map_of_mem lL
   generalize hN:G.ak.getD j []=N at*
   have f5:=Tc m k N hk hc.ok cZ n1 bZ n2
   generalize Jm m k N=X at*
   have f6:=ih st1 (t::stk) jy X kh om n3 (fun h e=>by simp at e;subst e;exact Rr)
   have ho:=tU Wg (K7 hc.ins) n st1 (t::stk) jy X kh om n3 (fun h e=>by simp at e;subst e;exact Rr)
   change uF Y9 (VU m) (Q5 m) st1 (t::stk) jy (Y6 m n st1 X) _ at ho
   have fh:(if(Y6 m n st1 X).1=true then Y6 m n st1 X else iD (Y6 m n) ((VU m t).drop (j+1)) (Y6 m n st1 X).2)=R:=cC
   clear cC
   generalize hr:Y6 m n st1 X=r at*
   refine Yl ([(g4,.cells 45 8 (ao (Xo true m))),(g5,.cells 255 3 (ao [.int .i64 2,.int .i64 ((k:Int)-1),.int .i64 (i:Int)]))]) [(0,0),(1,0),(2,0),(3,0),(4,0),(5,0),(6,0),(7,0),(8,1)] Qg kR eI ?_
   have J2:=oj aC aM
   refine yG J2 ?_
   refine X9 rfl f5 rfl rfl rfl (fun _ _=>(zL J2)) ?_
   refine Xw J2 ?_
   refine W2 rfl f6 rfl rfl rfl (zE J2) (zL J2) (by refine yS J2 ?_;exact Qm (Lm _ (Lf ..)) (Qm (Lf ..) Qf)) ?_
   refine Xw J2 ?_
   all_goals repeat' first|refine zV J2 ?_|refine zH J2 ?_ ?_<;>intro hb|fail
   ·refine QS (h':=[(g,.gen (JY Jz (fo r.2)))]) rfl sL fun R r=>?_;simp only[go_sem,aC,aM];refine r _ rfl ?_;clear r R
    rw [iP hb] at fh
    rw [←fh,iP hb]
    exact⟨by rw [hb],rfl⟩
   ·have vG:r.1=false:=hb
    rw [iN (by rw [vG];decide)] at fh
    obtain⟨mG,q1,_,q3,_⟩:=ho.2 vG
    refine Qb ⟨(j+1,r.2,mG),?_⟩
    and_intros
    all_goals first|rfl|exact Lr _|exact True.intro|exact fh|exact q1|(dsimp only;omega)
  ·have eu:(VU m t).drop j=[]:=List.drop_of_length_le (by rw [cq,Lw];omega)
   rw [eu] at cC
   have fh:(false,st1)=R:=cC
   subst fh
   have oP:t∈st1.map (·.1):=(kh.key t).2 (.inl Lf)
   refine Qnz (a:=t) (kv:=fo st1) (Kf:=Jz) (v:=.int .i64 2) rfl rfl rfl BZ (Cg AY) (QnA t) (zE (oj aC aM)) (zE (oj aC aM)) (zE (oj aC aM)) (fun _ _ _ h=>DO h) (cv:=.c (.int .i64 2)) (zE (oj aC aM)) (fun _ _ _ h=>h) (Im oP) (zE (oj aC aM)) ?_
   rw [LW]
   refine yS (oj aC aM) ?_
   refine zA (oj aC aM) ?_
   refine QS (h':=[(g,.gen (JY Jz (fo (UN t 2 st1))))]) rfl sL fun R r=>?_;simp only[go_sem,aC,aM];refine r _ rfl ?_;clear r R
   exact⟨rfl,rfl⟩
end Go.Proofs.YtjegkdadeghpjaaGreatDoor
namespace Go.PN
open Go.AI
theorem SX (m:Qz) {k:Nat} (h:k≤m.aa.length):Z3 m k (m.aa.length+1-k)=Yx m k++Z3 m (k+1) (m.aa.length+1-(k+1)):=by
 rw [show m.aa.length+1-k=(m.aa.length+1-(k+1))+1 from by omega];rfl
theorem SY (m:Qz) {k i:Nat} (h:i<(Qt m k).length):(Yx m k).drop i=((2,(k:Int)-1,(i:Int)):Th)::(Yx m k).drop (i+1):=by
 have hl:i<(Yx m k).length:=by unfold Yx;rw [Lw,List.length_range];exact h
 rw [List.drop_eq_getElem_cons hl]
 congr 1
 simp only [Yx,List.getElem_map,List.getElem_range]
theorem Td (m:Qz) (k:Nat):(Yx m k).length=(Qt m k).length:=by unfold Yx;rw [Lw,List.length_range]
theorem K5.cy {m:Qz} (h:K5 m) (h0:Vu m=0):Da m:=⟨h.ok,h.wi,yj (GY h0),h.inl⟩
end Go.PN
namespace Go.Proofs.YtjegkdadeghpjaaGreatDoor
open Go.AI Go.PN Proofs.Tryz
attribute [local irreducible] aw Fa VA Vk Fh YO
theorem QuJ (t:Th):Fa prog 205 [tK t] (.aF []):=by
 refine fA func205 fun C hC=>?_
 refine zA o0 ?_
 refine xB fun g1 ah=>?_
 refine zA ah ?_
 refine Qq5 hC rfl fun R r=>?_
 refine yS ah ?_
 refine r _ rfl ?_
 exact .aF trivial
theorem QnB (m:Qz) (hc:Da m):Fa prog 125 [.agg (Xo true m)] (.c (.bool (lu m))):=by
 have dJ:=hc.w2.pl
 refine fA func125 fun C hC=>?_
 refine zA o0 ?_
 refine xB fun g1 ah=>?_
 refine zA ah ?_
 refine FX (Kf:=Jz) rfl rfl rfl fun g n_=> ?_
 replace n_:=Qa.ay n_
 dsimp only [Qa.ne] at n_
 have J1:=oj ah n_
 refine yS J1 ?_
 refine zA J1 ?_
 have PI:lu m=(iD (Y6 m ((Q5 m).length+1)) (Z3 m 0 (m.aa.length+1-0)) []).1:=rfl
 rw [PI]
 generalize hR:iD (Y6 m ((Q5 m).length+1)) (Z3 m 0 (m.aa.length+1-0)) []=R
 refine Qh (fun x:Nat×List (Th×Int)×List Th=>[(1,.c (.aj g1 0)),(3,.c (.raw (.map (some g)))),(4,.c (.int .i64 ((x.1:Int)-1)))]) (fun x=>[(g,.gen (JY Jz (fo x.2.1))),(g1,.cells 45 8 (ao (Xo true m)))]) (fun x=>x.1≤m.aa.length+1∧iD (Y6 m ((Q5 m).length+1)) (Z3 m x.1 (m.aa.length+1-x.1)) x.2.1=R∧du Y9 (VU m) (Q5 m) x.2.1 [] x.2.2) (fun x=>m.aa.length+1-x.1) (0,[],[]) (zB J1) zZ ⟨Lz _,hR,IH⟩ ?_
 clear hR PI J1
 rintro ⟨k,st,fin⟩ ⟨hk,cC,hi⟩
 dsimp only at hk cC hi⊢
 all_goals try(have Z:=(oj ah n_);(repeat' first|refine zV Z ?_|refine zH Z ?_ ?_<;>intro hb|fail);all_goals clear Z)
 ·have dC:k≤m.aa.length:=by omega
  have f1:=Vv m k dC hc.ok.pg
  have bY:=Kx hc.w2 k
  rw [SX m dC] at cC
  refine Zg (oj ah n_) f1 ?_
  refine Qh (fun x:Nat×List (Th×Int)×List Th=>[(1,.c (.aj g1 0)),(3,.c (.raw (.map (some g)))),(4,.c (.int .i64 ((k:Int)-1))),(17,.c (.int .i64 (Qt m k).length)),(18,.c (.int .i64 x.1))]) (fun x=>[(g,.gen (JY Jz (fo x.2.1))),(g1,.cells 45 8 (ao (Xo true m)))]) (fun x=>x.1≤(Qt m k).length∧iD (Y6 m ((Q5 m).length+1)) ((Yx m k).drop x.1++Z3 m (k+1) (m.aa.length+1-(k+1))) x.2.1=R∧du Y9 (VU m) (Q5 m) x.2.1 [] x.2.2) (fun x=>(Qt m k).length-x.1) (0,st,fin) (zB (oj ah n_)) zZ ⟨Lz _,cC,hi⟩ ?_
  clear cC hi
  rintro ⟨i,st,fin⟩ ⟨eH,cC,hi⟩
  dsimp only at eH cC hi⊢
  all_goals try(have Z:=(oj ah n_);(repeat' first|refine zV Z ?_|refine zH Z ?_ ?_<;>intro hb|fail);all_goals clear Z)
  ·have hi':=hb
   have lL:((2,(k:Int)-1,(i:Int)):Th)∈Q5 m:=Vx.2 ⟨k,i,dC,hi',rfl⟩
   have f2:=QsV m hc 205 QuJ g ((Q5 m).length+1) st [] fin (2,(k:Int)-1,(i:Int)) hi om (.inr lL) (fun h e=>by simp at e)
   have ho:=tU Wg (K7 hc.ins) ((Q5 m).length+1) st [] fin (2,(k:Int)-1,(i:Int)) hi om (.inr lL) (fun h e=>by simp at e)
   change uF Y9 (VU m) (Q5 m) st [] fin (Y6 m ((Q5 m).length+1) st (2,(k:Int)-1,(i:Int))) _ at ho
   rw [SY m hi',Lq] at cC
   have fh:(if(Y6 m ((Q5 m).length+1) st (2,(k:Int)-1,(i:Int))).1=true then Y6 m ((Q5 m).length+1) st (2,(k:Int)-1,(i:Int)) else iD (Y6 m ((Q5 m).length+1)) ((Yx m k).drop (i+1)++Z3 m (k+1) (m.aa.length+1-(k+1))) (Y6 m ((Q5 m).length+1) st (2,(k:Int)-1,(i:Int))).2)=R:=cC
   clear cC
   generalize hr:Y6 m ((Q5 m).length+1) st (2,(k:Int)-1,(i:Int))=r at*
   all_goals try(have Z:=(oj ah n_);(repeat' first|refine zV Z ?_|refine yQ Z f2 ?_|refine zH Z ?_ ?_<;>intro hb|fail);all_goals clear Z)
   ·refine yT hC (oj ah n_) ?_
    rw [iP hb] at fh
    rw [←fh]
    exact .one (.c (Qe hb.symm))
   ·have vG:r.1=false:=hb
    rw [iN (by rw [vG];decide)] at fh
    obtain⟨mG,q1,_,q3,_⟩:=ho.2 vG
    refine Qb ⟨(i+1,r.2,mG),?_⟩
    and_intros
    all_goals first|rfl|exact Lr _|exact True.intro|exact fh|exact q1|(dsimp only;omega)
  ·rw [List.drop_of_length_le (by rw [Td];omega),Ln] at cC
   refine zA (oj ah n_) ?_
   refine Qb ⟨(k+1,st,fin),?_⟩
   and_intros
   all_goals first|rfl|exact Lr _|exact True.intro|exact cC|exact hi|exact Ul om|(dsimp only;omega)
 ·have jn:k=m.aa.length+1:=by omega
  subst jn
  rw [Nat.sub_self] at cC
  have fh:(false,st)=R:=cC
  subst fh
  refine yT hC (oj ah n_) ?_
  exact .one (.c (.bool _))
end Go.Proofs.YtjegkdadeghpjaaGreatDoor
namespace Go.PN
open Go.AI
variable {α β σ : Type}
theorem Vz {a b:Int} (h:a≠0):Z2 a b=a:=iN h
theorem XO {a b:Int} (h:a=0):Z2 a b=b:=iP h
theorem AZ (a b c:Int):Z2 (Z2 a b) c=Z2 a (Z2 b c):=by
 by_cases h:a=0
 ·rw [XO h,XO h]
 ·rw [Vz h,Vz h,Vz h]
theorem x7 {f:Nat→σ→Int×σ} {n i:Nat} {s:σ} (h:(f i s).1=0):Kw f (n+1) i s=Kw f n (i+1) (f i s).2:=iP h
theorem xj {f:Nat→σ→Int×σ} {n i:Nat} {s:σ} (h:(f i s).1≠0):Kw f (n+1) i s=f i s:=iN h
def ez (m:Qz):Int:=Z2 (Vu m) (if lu m then 14 else 0)
abbrev sZ (m:Qz):Int:=(Kw (fun k (_:Unit)=>(UJ m k,())) (m.aa.length+1) 0 ()).1
abbrev uI (m:Qz):Int:=(Kw (Ud m) (m.aa.length+1) 0 []).1
theorem CB (m:Qz):ez m=Z2 (if QD m.name then 0 else 5) (Z2 (Jw m) (Z2 (Jx m) (Z2 (sZ m) (Z2 (uI m) (Z2 (if Yg m 0 m.top then 0 else 5) (Z2 (YP m) (Z2 (Vd m) (if lu m then 14 else 0)))))))):=by
 unfold ez Vu
 simp only [AZ]
theorem A1 {f:Nat→α→List β→Int×List β} {c:Nat}:∀(l:List α) (i:Nat) (s:List β),(∀i x s,x∈l→(f i x s).2.length≤s.length+c)→(XT f l i s).2.length≤s.length+c*l.length
 |[],_,s,_=>Ac _
 |x::l,i,s,h=>by
  have h1:=h i x s Lf
  have h2:=A1 l (i+1) (f i x s).2 fun i y s hy=>h i y s (Lm _ hy)
  rw [Lc,Nat.mul_add]
  unfold XT
  split
  ·omega
  ·omega
theorem Qqh (m:Qz) (k:Nat) (x:Xk) (j:Nat) (i:BS) (sp:List BS):(O6 m k x j i sp).2.length≤sp.length+1:=by
 unfold O6
 repeat' split
 all_goals first|exact Nat.le_succ _|(rw [La];exact Ac _)
theorem Qqi {m:Qz} {k:Nat} (hI:∀x∈Qt m k,x.ak.length≤16) (sp:List BS):(Ud m k sp).2.length≤sp.length+16*(Qt m k).length:=by
 have:=A1 (f:=mu m k) (c:=16) (Qt m k) 0 sp fun i x s hx=>by
  have h1:=A1 (f:=O6 m k x) (c:=1) x.ak 0 s fun j n s _=>Qqh m k x j n s
  have h2:=hI x hx
  show(XT (O6 m k x) x.ak 0 s).2.length≤_
  omega
 unfold Ud
 split<;>exact this
theorem Nt {m:Qz} (h:sZ m=0) {k:Nat} (hk:k≤m.aa.length):∀x∈Qt m k,x.ak.length≤16:=fun x hx=>by
 obtain⟨_,hg⟩:=uu h k om
 rw [Nz] at hg
 obtain⟨i,hi,rfl⟩:=List.getElem_of_mem hx
 have:=ur aU (show XU (fU m k) (Qt m k) 0=0 from hg) i hi
 rw [Lg,Li hi] at this
 simp only [Option.getD_some] at this
 generalize (Qt m k)[i]=x at*
 unfold fU at this
 split at this
 ·cases this
 split at this
 ·cases this
 unfold UI at this
 split at this
 ·cases this
 split at this
 ·cases this
 rename_i hb
 unfold ot at hb
 repeat' split at hb
 all_goals simp at hb<;>omega
end Go.PN
namespace Go.Proofs.YtjegkdadeghpjaaGreatDoor
open Go.AI Go.PN Proofs.Tryz
attribute [local irreducible] aw Fa VA Vk Fh YO
theorem B2 (m:Qz) (ho:K5 m):Fa prog 56 [.agg (Xo true m)] (.c (Z7 (ez m))):=by
 have hm:=ho.ok
 have cZ:=ho.wi
 have dJ:=cZ.pl
 have fn:Fa prog 117 [.c (.str (sB m.name))] (.c (.bool (QD m.name))):=Jh m.name ho.wf.nm
 have f1:=R6 m hm ho.wf
 have f2:=Sc m hm cZ
 rw [CB]
 refine fA func56 fun C hC=>?_
 refine zA o0 ?_
 refine xB fun g1 ah=>?_
 repeat' first|refine zV ah ?_|refine yQ ah fn ?_|refine yQ ah f1 ?_|refine yQ ah f2 ?_|refine zH ah ?_ ?_<;>intro hb|fail
 ·refine yT hC ah ?_
  rw [show QD m.name=false from by simpa using hb,Vz Af]
  exact .one (.c (QG rfl Af))
 ·rename_i h1
  rw [iP (by simpa using h1),XO rfl,Vz (by simpa using hb)]
  refine yT hC ah ?_
  exact .one (.c ZT)
 ·rename_i h1 h2
  rw [iP (by simpa using h1),XO rfl,XO (by simpa using h2),Vz (by simpa using hb)]
  refine yT hC ah ?_
  exact .one (.c ZT)
 rename_i h1 h2
 have h3:Jx m=0:=by simpa using hb
 rw [iP (by simpa using h1),XO rfl,XO (by simpa using h2),XO h3]
 clear fn f1 f2
 generalize hG:sZ m=G
 refine Qh (fun k:Nat=>[(1,.c (.aj g1 0)),(2,.c .aN),(5,.c (.int .i64 ((k:Int)-1)))]) (fun _=>[(g1,.cells 45 8 (ao (Xo true m)))]) (fun k=>k≤m.aa.length+1∧(Kw (fun k (_:Unit)=>(UJ m k,())) (m.aa.length+1-k) k ()).1=G) (fun k=>m.aa.length+1-k) 0 (zB ah) zZ ⟨Lz _,hG⟩ ?_
 rintro k ⟨hk,aB⟩
 repeat' first|refine zV ah ?_|refine zH ah ?_ ?_<;>intro hb|fail
 ·have dC:k≤m.aa.length:=by omega
  have f1:=Sd m k dC hm cZ
  rw [show m.aa.length+1-k=(m.aa.length+1-(k+1))+1 from by omega] at aB
  repeat' first|refine zV ah ?_|refine yQ ah f1 ?_|refine zH ah ?_ ?_<;>intro hb|fail
  ·have iE:UJ m k≠0:=by simpa using hb
   rw [xj (f:=fun k (_:Unit)=>(UJ m k,())) iE] at aB
   have aB:UJ m k=G:=aB
   subst aB
   rw [Vz iE]
   refine yT hC ah ?_
   exact .one (.c ZT)
  ·rw [x7 (f:=fun k (_:Unit)=>(UJ m k,())) (by simpa using hb)] at aB
   refine Qb ⟨k+1,?_⟩
   and_intros
   all_goals first|rfl|exact Lr _|exact True.intro|exact aB|exact Ul om|omega
 have jn:k=m.aa.length+1:=by omega
 subst jn
 rw [Nat.sub_self] at aB
 have DJ:G=0:=aB.symm
 subst DJ
 rw [XO rfl]
 have hI:=fun k hk=>Nt hG (k:=k) hk
 have Ez:m.aa.length≤8:=by
  unfold Jx at h3
  split at h3
  ·cases h3
  ·omega
 have DL:∀k,k≤m.aa.length→∀i,((Qt m k).getD i aU).ak.length≤16:=fun k hk i=>QF (P:=fun x:Xk=>x.ak.length≤16) (hI k hk) (Lz _) i
 have bF:=fun k hk sp=>Qqi (hI k hk) sp
 have bY:=fun k=>Kx cZ k
 clear aB
 generalize hN:uI m=N
 refine zA ah ?_
 refine Qh (fun x:Nat×List BS×Option Nat=>[(1,.c (.aj g1 0)),(2,.c .aN),(7,.c (gs x.2.2 1 x.2.1.length)),(8,.c (.int .i64 ((x.1:Int)-1)))]) (fun x=>gh x.2.2 9 x.2.1.length (Qi x.2.1)++[(g1,.cells 45 8 (ao (Xo true m)))]) (fun x=>x.1≤m.aa.length+1∧(x.2.2=none→x.2.1.length=0)∧x.2.1.length≤16777216*x.1∧(Kw (Ud m) (m.aa.length+1-x.1) x.1 x.2.1).1=N) (fun x=>m.aa.length+1-x.1) (0,[],none) (zB ah) zZ ⟨Lz _,fun _=>rfl,Lz _,hN⟩ ?_
 rintro ⟨k,sp,og⟩ ⟨hk,ax,dP,aB⟩
 dsimp only at hk ax dP aB⊢
 refine YY fun bf=> ?_
 have hgn:∀g,og=some g→(g=g1)=False:=fun g e=>by
  subst e
  simp only [gh,Qa.keys,List.map_append,Ld,List.map_nil,Lq,Ln] at bf
  exact eq_false fun e=>(List.nodup_cons.1 bf).1 (by rw [e];exact Lf)
 refine Qj List.perm_append_comm ?_
 clear bf
 simp only [Lq,Ln]
 repeat' first|refine zV ah ?_|refine zH ah ?_ ?_<;>intro hb|fail
 ·have dC:k≤m.aa.length:=by omega
  have rW:=bF k dC sp
  have tl:=bY k
  rw [show m.aa.length+1-k=(m.aa.length+1-(k+1))+1 from by omega] at aB
  refine Qq (hc:=gh og 9 sp.length (Qi sp)) (hr:=[(g1,.cells 45 8 (ao (Xo true m)))]) (R8 m k sp og dC hm cZ (DL k dC) (fun i j=>ho.inl k i j) ax om) rfl rfl rfl (List.perm_append_comm (l₁:=[(g1,_)])) (zL ah) ?_
  rintro _ _ (⟨q1,rfl,rfl⟩|⟨q1,ej,q2,rfl,rfl⟩) _
  ·rw [xj (f:=Ud m) q1] at aB
   subst aB
   simp only [Ln]
   rw [Vz q1]
   refine yS ah ?_
   repeat' first|refine zV ah ?_|refine zH ah ?_ ?_<;>intro hb|fail
   ·refine yT hC ah ?_
    exact .one (.c ZT)
   ·exfalso;simp_all
  ·rw [x7 (f:=Ud m) q1] at aB
   refine yS ah ?_
   refine zA ah ?_
   refine Qb ⟨(k+1,(Ud m k sp).2,ej),?_⟩
   and_intros
   all_goals first|rfl|exact Lr _|exact True.intro|exact q2|exact aB|exact Ul om|(dsimp only;omega)
 all_goals
  have jn:k=m.aa.length+1:=by omega
  subst jn
  rw [Nat.sub_self] at aB
  have ti:N=0:=aB.symm
  subst ti
  rw [XO rfl]
 have f3:=O8 m 0 m.top (Lz _) hm (Lt (bY 0) Af) (Lt ho.tp Af)
 rw [show((0:Nat):Int)-1= -1 from rfl] at f3
 have f4:=R9 m hm ho.RX
 have f5:=R7 m hm cZ ho.RW
 clear aB dP ax hgn
 repeat' first|refine zV ah ?_|refine yQ ah f3 ?_|refine yQ ah f4 ?_|refine yQ ah f5 ?_|refine zH ah ?_ ?_<;>intro hb|fail
 ·refine yT hC ah ?_
  rw [show Yg m 0 m.top=false from by simpa using hb,iN Af,Vz Af]
  exact .one (.c (QG rfl Af))
 ·rename_i h4
  rw [iP (by simpa using h4),XO rfl,Vz (by simpa using hb)]
  refine yT hC ah ?_
  exact .one (.c ZT)
 ·rename_i h4 h5
  rw [iP (by simpa using h4),XO rfl,XO (by simpa using h5),Vz (by simpa using hb)]
  refine yT hC ah ?_
  exact .one (.c ZT)
 rename_i h4 h5
 have e0:Vu m=0:=by
  unfold Vu
  rw [iP (by simpa using h1),XO rfl,XO (by simpa using h2),XO h3,XO hG,XO hN,iP (by simpa using h4),XO rfl,XO (by simpa using h5)]
  simpa using hb
 rw [iP (by simpa using h4),XO rfl,XO (by simpa using h5),XO (by simpa using hb)]
 have f6:=QnB m (ho.cy e0)
 repeat' first|refine zV ah ?_|refine yQ ah f6 ?_|refine zH ah ?_ ?_<;>intro hb|fail
 ·refine yT hC ah ?_
  rw [iP hb]
  exact .one (.c (QG rfl Af))
 ·refine yT hC ah ?_
  rw [iN (by simpa using hb)]
  exact .one (.c (ZF rfl))
end Go.Proofs.YtjegkdadeghpjaaGreatDoor
namespace Go.PN
open Go.AI
theorem B3 {m:Qz} (h:ez m=0):Good m:=(Qp0 m).1 (Vf.1 (show Z2 (Vu m) (if lu m then 14 else 0)=0 from h)).1
theorem QuK:Y5 aW=[48]:=by
 have e1:RD.ps aW=false:=by decide
 have e2:RD.pn aW=0:=by decide
 have e3:RD.pd aW=1:=by decide
 unfold Y5
 rw [e1,e2,e3,iN (by simp),iP rfl,wM,KW Af];rfl
theorem ln {r:RD} (h:n9 r=true):r=aW:=by
 obtain⟨a,b,c⟩:=r
 unfold n9 at h
 simp only [Ba,Bool.not_eq_true',beq_iff_eq,Lh] at h
 obtain⟨⟨h1,h2⟩,h3⟩:=h
 subst h1 h2 h3
 rfl
end Go.PN
namespace Go.PN
open Go.AI
theorem Te (x:BS) (l:List BS):(OL (x::l)).length+1=(x::l).length+VK (x::l) (x::l).length:=by
 have h:=wN x l l.length (Ac _)
 have e:Jy x l l.length=OL (x::l):=by unfold Jy;rw [Lk];rfl
 rw [e] at h
 have a2:VK (x::l) (x::l).length=x.length+VK l l.length:=by unfold VK;rw [Lk,Lk];rfl
 rw [h,a2,Lc];omega
theorem UR (x:BS) (l:List BS):(Yw (x::l)).length=(x::l).length+VK (x::l) (x::l).length:=by
 rw [←Te];unfold Yw;simp
theorem Fi {α:Type} (l:List α) (f:α→BS) (j:Nat):((l.take j).flatMap f).length≤(l.flatMap f).length:=by
 conv=>rhs;rw [←List.take_append_drop j l,List.flatMap_append,La]
 omega
def Jq (m:Qz) (j:Nat):BS:=Yw [Vr,m.name]++[10]++(m.events.take j).flatMap y8
def Jr (m:Qz) (j:Nat):Bool:=(m.events.take j).any fun x=>Jp false x 4
structure Ff (m:Qz):Prop where
 ev:∀x∈m.events,x.p.wf 100000∧x.fail.wf 100000∧x.rep.wf 100000∧ -9223372036854775808≤x.cost∧x.cost<9223372036854775808
 gt:∀g∈m.an,-9223372036854775808≤g.kind∧g.kind<9223372036854775808∧(g.kind=2→0≤g.k∧g.k<100)∧g.aH.wf 100000
 pg:∀p∈m.aa,∀g∈p.an,-9223372036854775808≤g.kind∧g.kind<9223372036854775808∧(g.kind=2→0≤g.k∧g.k<100)∧g.aH.wf 100000
 gr:∀x∈m.ae,∀r∈x.ar,r.wf 100000
 gk:∀x∈m.ae,∃q:Nat,q<2∧x.kind=(q:Int)
 ph:∀x∈m.ai,∀v∈x.values,v.p.wf 100000
 len:(ZL m).length≤10000000000
def px (m:Qz) (j:Nat):BS:=Jq m m.events.length++(m.af.take j).flatMap Rh
def US (m:Qz) (j:Nat):BS:=px m m.af.length++(m.an.take j).flatMap (uS [])
def KM (lo:Bool) (l:List Xk) (j:Nat):Bool:=lo||(l.take j).any fun g=>decide (g.kind=7)&&XG g.aH
theorem QnD (m:Qz) (j:Nat) (hj:j<m.an.length):US m (j+1)=US m j++ZZ (m.an.getD j aU)++[10]:=by
 unfold US
 rw [List.take_add_one,Li hj,Lg,Li hj,List.flatMap_append]
 simp [uS]
theorem SZ (lo:Bool) (l:List Xk) (j:Nat) (hj:j<l.length):KM lo l (j+1)=(KM lo l j||(decide ((l.getD j aU).kind=7)&&XG (l.getD j aU).aH)):=by
 unfold KM
 rw [List.take_add_one,Li hj,Lg,Li hj,List.any_append,←Bool.or_assoc]
 simp
def qK (m:Qz) (j:Nat):BS:=US m m.an.length++(m.aa.take j).flatMap RC
def sH (lo:Bool) (l:List YT) (j:Nat):Bool:=lo||(l.take j).any fun p=>p.an.any fun g=>decide (g.kind=7)&&XG g.aH
def qL (m:Qz) (j:Nat):BS:=qK m m.aa.length++(m.ae.take j).flatMap Pp
def sI (lo:Bool) (l:List YU) (j:Nat):Bool:=lo||(l.take j).any fun x=>x.ar.any XG
theorem QnE (m:Qz) (j:Nat) (hj:j<m.events.length):Jq m (j+1)=Jq m j++Yw (iC (m.events.getD j bn))++[10]:=by
 unfold Jq
 rw [List.take_add_one,Li hj,Lg,Li hj,List.flatMap_append]
 simp [y8]
theorem S1 (m:Qz) (j:Nat) (hj:j<m.events.length):Jr m (j+1)=Jp (Jr m j) (m.events.getD j bn) 4:=by
 unfold Jr
 rw [List.take_add_one,Li hj,Lg,Li hj,List.any_append]
 simp [Jp]
theorem LX (m:Qz) (j:Nat):(Jq m j).length≤(ZL m).length:=by
 have:=Fi m.events y8 j
 unfold Jq ZL
 simp only [La,Lc,Lu]
 omega
theorem QsW (m:Qz) (j:Nat):(US m j).length≤(ZL m).length:=by
 have:=Fi m.an (uS []) j
 unfold US px Jq ZL
 simp only [La,Lc,Lu,Lk]
 omega
def oh (m:Qz) (j:Nat):BS:=qL m m.ae.length++(m.ai.take j).flatMap RJ
def sF (lo:Bool) (l:List Ke) (j:Nat):Bool:=lo||(l.take j).any fun x=>x.values.any fun v=>XG v.p
theorem Qqk (m:Qz):oh m m.ai.length++Yw [Y2,m.top]++[10]=ZL m:=by
 unfold oh qL qK US px Jq ZL
 simp only [Lk]
 simp
theorem QsX {r:RD} (h:V2 r):(Y5 r).length≤36004:=QpL (L:=1000) Af h
theorem Qql (k:Int):(XB k).length≤36004:=by
 unfold XB
 split
 ·decide
 ·rename_i h
  obtain⟨n,rfl⟩:=Int.eq_ofNat_of_zero_le (show 0≤k by omega)
  have:n<9:=by omega
  match n,this with
  |0,_|1,_|2,_|3,_|4,_|5,_|6,_|7,_|8,_=>decide
structure QxC (x:Xk):Prop where
 k0:0≤x.kind
 k8:x.kind≤8
 n0:0≤x.k
 n16:x.k≤16
 aZ:x.ak.length≤16
 dm:x.kind=7→x.aH.bI=true
 d0:x.kind≠7→x.aH=aW
theorem NA {x:Xk} (h:UI x=0):QxC x:=by
 unfold UI at h
 rw [VV Af,VV Af,VV Af,VV Af,VV Af,VV Af] at h
 obtain⟨h1,h2,h3,h4,h5,h6,_⟩:=h
 have hi:x.ak.length≤16:=by
  unfold ot at h2
  simp only [Bool.not_eq_false] at h2
  split at h2
  ·have:=beq_iff_eq.1 h2;omega
  ·split at h2
   ·have:=beq_iff_eq.1 h2;omega
   ·split at h2
    ·simp only [Ba,Dq] at h2;omega
    ·simp only [Ba,Dq] at h2;omega
 have k0:x.kind≠2→x.k=0:=fun e=>Classical.byContradiction fun z=>h4 ⟨e,z⟩
 refine⟨by omega,by omega,?_,?_,hi,fun e=> ?_,fun e=>ln (by
  by_cases z:n9 x.aH=true
  ·exact z
  ·exact absurd ⟨e,by simpa using z⟩ h6)⟩
 ·by_cases e:x.kind=2
  ·have:¬(x.k<1∨x.k>x.ak.length):=fun z=>h3 ⟨e,z⟩
   omega
  ·rw [k0 e];decide
 ·by_cases e:x.kind=2
  ·have:¬(x.k<1∨x.k>x.ak.length):=fun z=>h3 ⟨e,z⟩
   omega
  ·rw [k0 e];decide
 ·by_cases z:x.aH.bI=true
  ·exact z
  ·exact absurd ⟨e,by simpa using z⟩ h5
theorem Gu {r:RD} (h:OK r=true):r.valid=true:=by
 unfold OK at h
 simp only [Ba] at h
 exact h.1
theorem TP {r:RD} (h:r.bI=true):r.valid=true:=by
 unfold RD.bI at h
 simp only [Ba] at h
 exact h.1.1
theorem CR:XG aW=false:=by unfold XG;rw [QuK];rfl
theorem AB {r:RD} (hw:V2 r) (hv:r.valid=true):(decide (YZ r.q≠0)&&XG r)=XG r:=by
 by_cases hs:YZ r.q=0
 ·have hq:r.q=0:=by
   unfold YZ at hs
   split at hs
   ·assumption
   ·split at hs<;>cases hs
  have h1:=Mc hw hv
  rw [hq] at h1
  have h2:r=aW:=by rw [←h1];decide+kernel
  rw [h2,CR,Bool.and_false]
 ·rw [Dt hs,Bool.true_and]
theorem QnF {c:Int} (h0:0≤c) (h1:c≤1073741824):(decide (YZ (rd (c:Rat)).q≠0)&&XG (rd (c:Rat)))=false:=by
 by_cases hc:c=0
 ·rw [De (fun h=>h ((QpU c).2 hc))];rfl
 ·have:XG (rd (c:Rat))=false:=by
   unfold XG
   rw [QpT om]
   have:=Bt 9 c.natAbs (by show _<10000000000;omega)
   exact De om
  rw [this,Bool.and_false]
theorem wz {α:Type} {p q:α→Bool}:∀{l:List α},(∀x∈l,p x=q x)→l.any p=l.any q
 |[],_=>rfl
 |x::l,h=>by
  rw [List.any_cons,List.any_cons,h x Lf,wz fun y hy=>h y (Lm _ hy)]
theorem LY {m:Qz} {L:List Xk} (hL:sA m L):(L.any fun g=>decide (g.kind=7)&&XG g.aH)=yz L:=by
 refine wz fun g hg=> ?_
 have s:=NA (hL.2 g hg).2.2.2.1
 by_cases h7:g.kind=7
 ·rw [Dt h7,Bool.true_and]
 ·rw [s.d0 h7,CR,Bool.and_false]
theorem QuL {m:Qz} (ho:K5 m) (hg:Good m):sF (sI (sH (KM (Jr m m.events.length) m.an m.an.length) m.aa m.aa.length) m.ae m.ae.length) m.ai m.ai.length=sQ m:=by
 unfold sF sI sH KM Jr sQ
 simp only [Lk]
 rw [LY hg.gt,wz (p:=fun p:YT=>p.an.any fun g=>decide (g.kind=7)&&XG g.aH) (q:=fun p=>yz p.an) fun p hp=>LY (hg.pg p hp).2.1]
 rw [wz (p:=fun x=>Jp false x 4) (q:=C1) fun x hx=> ?_]
 obtain⟨a1,a2,a3,a4,a5,a6⟩:=hg.ev x hx
 obtain⟨o1,o2,o3,o4⟩:=ho.ev.2 x hx
 have e:Jp false x 4=((decide (YZ x.p.q≠0)&&XG x.p)||((decide (YZ x.fail.q≠0)&&XG x.fail)||((decide (YZ x.rep.q≠0)&&XG x.rep)||((decide (YZ (rd (x.cost:Rat)).q≠0)&&XG (rd (x.cost:Rat)))||false)))):=rfl
 rw [e,AB o2 (TP a2),AB o3 (Gu a3),AB o4 (Gu a4),QnF a5 a6]
 unfold C1
 simp [Bool.or_assoc]
theorem QuM {m:Qz} (hg:Good m):m.an.length≤64∧∀p∈m.aa,p.an.length≤64:=by
 have h:=hg.uU
 unfold pI at h
 refine⟨by omega,fun p hp=> ?_⟩
 have:p.an.length≤(m.aa.map fun p=>p.an.length).sum:=by
  clear h hg
  generalize m.aa=L at*
  induction L with
  |nil=>cases hp
  |cons a L ih=>
   rw [Ld,List.sum_cons]
   rcases Lb.1 hp with rfl|hp
   ·omega
   ·have:=ih hp;omega
 omega
theorem Qwc {m:Qz} (hg:Good m) {x:Ke} (hx:x∈m.ai):x.values.length≤24:=by
 obtain⟨_,_,a3,a4⟩:=hg.ph x hx
 have h1:(x.values.map Zh.event).length≤(ff m).length:=UP a4 fun n hn=>by
  obtain⟨v,hv,rfl⟩:=List.mem_map.1 hn
  exact(a3 v hv).1
 rw [Lw,Lw] at h1
 have:=hg.uM
 omega
end Go.PN
namespace Go.AI
theorem QnG {E:Vj} {K:List It} {σ:Sl} {h:Qa} {x y:Code} (k:aw E (.code y::K) σ h):aw E (.code (.cond (.const (.bool false)) x y)::K) σ h:=fun a w s=>wp_cond_split (t:=false) rfl (fun e=>by cases e) (fun _=>k a w s)
end Go.AI
namespace Go.Proofs.YtjegkdadeghpjaaGreatDoor
open Go.AI Go.PN Proofs.Tryz
attribute [local irreducible] aw Fa VA Vk Fh YO
theorem TQ:Fa prog 158 [.c (.int .u64 0)] (.c (.int .i64 0)):=by
 refine fA func158 fun C hC=>?_
 refine xG ?_
 refine xN ?_
 refine xG ?_
 refine xN ?_
 refine xG ?_
 refine xN ?_
 refine xG ?_
 have w0:Xz .u8 (0:Int)=((0:Nat):Int):=by rw [QM];rfl
 refine yS w0 ?_
 refine um (i:=0) rfl rfl rfl uo rfl (zE w0) (by decide+kernel) om ?_
 refine mc hC w0 ?_
 exact .one (.c (Qn rfl))
theorem Js:Fa prog 94 [.c (.int .u64 0)] (.c (.int .i64 0)):=by
 refine fA func94 fun C hC=>?_
 refine xG ?_
 refine QnG ?_
 refine xG ?_
 refine xC (TQ) ?_
 refine eS hC ?_
 exact .one (.c (Qn rfl))
theorem QnH (cf:Value):Fh prog 207 [] [.c .ab,.c (.int .i64 0),.c (.int .i64 0),.c (.raw cf)] (fun x h=>x=.aF []∧h=[]):=by
 refine fH func207 fun C hC=>?_
 refine xG ?_
 refine Qh (fun _:Unit=>[(8,.c (.int .i64 1)),(2,.c (.int .i64 0))]) (fun _=>[]) (fun _=>(0:Nat)=0) (fun _=>0) () eB zZ rfl ?_
 rintro _ _
 refine qF ?_
 exact⟨rfl,rfl⟩
theorem QnI (cf:Value):Fh prog 128 [] [.c .ab,.c (.int .i64 0),.c (.int .i64 0),.c (.int .i64 0),.c (.raw cf)] (fun x h=>x=.aF []∧h=[]):=by
 refine fH func128 fun C hC=>?_
 refine xG ?_
 refine Qh (fun _:Unit=>[(0,.c .ab),(1,.c (.int .i64 0)),(2,.c (.int .i64 0)),(4,.c (.raw cf))]) (fun _=>[]) (fun _=>(0:Nat)=0) (fun _=>0) () eB zZ rfl ?_
 rintro _ _
 refine oe ?_
 refine Qq (hc:=[]) (hr:=[]) (QnH cf) rfl rfl rfl (.refl _) eL ?_
 rintro _ _ ⟨rfl,rfl⟩ _
 refine ma ?_
 exact⟨rfl,rfl⟩
theorem TR (cf:Value):Fh prog 59 [] [.c .ab,.c (.raw cf)] (fun x h=>x=.aF []∧h=[]):=by
 have w0:Xz .u64 (0:Int)=0:=by rw [QM];rfl
 refine fH func59 fun C hC=>?_
 refine yG w0 ?_
 refine yC w0 (Js) ?_
 refine yG w0 ?_
 refine Qq (hc:=[]) (hr:=[]) (QnI cf) rfl rfl rfl (.refl _) (zL w0) ?_
 rintro _ _ ⟨rfl,rfl⟩ _
 refine pw w0 ?_
 exact⟨rfl,rfl⟩
theorem QnJ (cf:Value):Fh prog 216 [] [.c .ab,.c (.int .i64 0),.c (.int .i64 0),.c (.raw cf)] (fun x h=>x=.aF []∧h=[]):=by
 refine fH func216 fun C hC=>?_
 refine xG ?_
 refine Qh (fun _:Unit=>[(8,.c (.int .i64 1)),(2,.c (.int .i64 0))]) (fun _=>[]) (fun _=>(0:Nat)=0) (fun _=>0) () eB zZ rfl ?_
 rintro _ _
 refine qF ?_
 exact⟨rfl,rfl⟩
theorem QnK (cf:Value):Fh prog 131 [] [.c .ab,.c (.int .i64 0),.c (.int .i64 0),.c (.int .i64 0),.c (.raw cf)] (fun x h=>x=.aF []∧h=[]):=by
 refine fH func131 fun C hC=>?_
 refine xG ?_
 refine Qh (fun _:Unit=>[(0,.c .ab),(1,.c (.int .i64 0)),(2,.c (.int .i64 0)),(4,.c (.raw cf))]) (fun _=>[]) (fun _=>(0:Nat)=0) (fun _=>0) () eB zZ rfl ?_
 rintro _ _
 refine oe ?_
 refine Qq (hc:=[]) (hr:=[]) (QnJ cf) rfl rfl rfl (.refl _) eL ?_
 rintro _ _ ⟨rfl,rfl⟩ _
 refine ma ?_
 exact⟨rfl,rfl⟩
theorem TS (cf:Value):Fh prog 63 [] [.c .ab,.c (.raw cf)] (fun x h=>x=.aF []∧h=[]):=by
 have w0:Xz .u64 (0:Int)=0:=by rw [QM];rfl
 refine fH func63 fun C hC=>?_
 refine yG w0 ?_
 refine yC w0 (Js) ?_
 refine yG w0 ?_
 refine Qq (hc:=[]) (hr:=[]) (QnK cf) rfl rfl rfl (.refl _) (zL w0) ?_
 rintro _ _ ⟨rfl,rfl⟩ _
 refine pw w0 ?_
 exact⟨rfl,rfl⟩
theorem QnL (cf:Value):Fh prog 224 [] [.c .ab,.c (.int .i64 0),.c (.int .i64 0),.c (.raw cf)] (fun x h=>x=.aF []∧h=[]):=by
 refine fH func224 fun C hC=>?_
 refine xG ?_
 refine Qh (fun _:Unit=>[(8,.c (.int .i64 1)),(2,.c (.int .i64 0))]) (fun _=>[]) (fun _=>(0:Nat)=0) (fun _=>0) () eB zZ rfl ?_
 rintro _ _
 refine qF ?_
 exact⟨rfl,rfl⟩
theorem QnM (cf:Value):Fh prog 132 [] [.c .ab,.c (.int .i64 0),.c (.int .i64 0),.c (.int .i64 0),.c (.raw cf)] (fun x h=>x=.aF []∧h=[]):=by
 refine fH func132 fun C hC=>?_
 refine xG ?_
 refine Qh (fun _:Unit=>[(0,.c .ab),(1,.c (.int .i64 0)),(2,.c (.int .i64 0)),(4,.c (.raw cf))]) (fun _=>[]) (fun _=>(0:Nat)=0) (fun _=>0) () eB zZ rfl ?_
 rintro _ _
 refine oe ?_
 refine Qq (hc:=[]) (hr:=[]) (QnL cf) rfl rfl rfl (.refl _) eL ?_
 rintro _ _ ⟨rfl,rfl⟩ _
 refine ma ?_
 exact⟨rfl,rfl⟩
theorem TT (cf:Value):Fh prog 65 [] [.c .ab,.c (.raw cf)] (fun x h=>x=.aF []∧h=[]):=by
 have w0:Xz .u64 (0:Int)=0:=by rw [QM];rfl
 refine fH func65 fun C hC=>?_
 refine yG w0 ?_
 refine yC w0 (Js) ?_
 refine yG w0 ?_
 refine Qq (hc:=[]) (hr:=[]) (QnM cf) rfl rfl rfl (.refl _) (zL w0) ?_
 rintro _ _ ⟨rfl,rfl⟩ _
 refine pw w0 ?_
 exact⟨rfl,rfl⟩
theorem QnN (cf:Value):Fh prog 241 [] [.c .ab,.c (.int .i64 0),.c (.int .i64 0),.c (.raw cf)] (fun x h=>x=.aF []∧h=[]):=by
 refine fH func241 fun C hC=>?_
 refine xG ?_
 refine Qh (fun _:Unit=>[(8,.c (.int .i64 1)),(2,.c (.int .i64 0))]) (fun _=>[]) (fun _=>(0:Nat)=0) (fun _=>0) () eB zZ rfl ?_
 rintro _ _
 refine qF ?_
 exact⟨rfl,rfl⟩
theorem QnO (cf:Value):Fh prog 134 [] [.c .ab,.c (.int .i64 0),.c (.int .i64 0),.c (.int .i64 0),.c (.raw cf)] (fun x h=>x=.aF []∧h=[]):=by
 refine fH func134 fun C hC=>?_
 refine xG ?_
 refine Qh (fun _:Unit=>[(0,.c .ab),(1,.c (.int .i64 0)),(2,.c (.int .i64 0)),(4,.c (.raw cf))]) (fun _=>[]) (fun _=>(0:Nat)=0) (fun _=>0) () eB zZ rfl ?_
 rintro _ _
 refine oe ?_
 refine Qq (hc:=[]) (hr:=[]) (QnN cf) rfl rfl rfl (.refl _) eL ?_
 rintro _ _ ⟨rfl,rfl⟩ _
 refine ma ?_
 exact⟨rfl,rfl⟩
theorem TU (cf:Value):Fh prog 69 [] [.c .ab,.c (.raw cf)] (fun x h=>x=.aF []∧h=[]):=by
 have w0:Xz .u64 (0:Int)=0:=by rw [QM];rfl
 refine fH func69 fun C hC=>?_
 refine yG w0 ?_
 refine yC w0 (Js) ?_
 refine yG w0 ?_
 refine Qq (hc:=[]) (hr:=[]) (QnO cf) rfl rfl rfl (.refl _) (zL w0) ?_
 rintro _ _ ⟨rfl,rfl⟩ _
 refine pw w0 ?_
 exact⟨rfl,rfl⟩
theorem QnP (cf:Value):Fh prog 249 [] [.c .ab,.c (.int .i64 0),.c (.int .i64 0),.c (.raw cf)] (fun x h=>x=.aF []∧h=[]):=by
 refine fH func249 fun C hC=>?_
 refine xG ?_
 refine Qh (fun _:Unit=>[(8,.c (.int .i64 1)),(2,.c (.int .i64 0))]) (fun _=>[]) (fun _=>(0:Nat)=0) (fun _=>0) () eB zZ rfl ?_
 rintro _ _
 refine qF ?_
 exact⟨rfl,rfl⟩
theorem QnQ (cf:Value):Fh prog 135 [] [.c .ab,.c (.int .i64 0),.c (.int .i64 0),.c (.int .i64 0),.c (.raw cf)] (fun x h=>x=.aF []∧h=[]):=by
 refine fH func135 fun C hC=>?_
 refine xG ?_
 refine Qh (fun _:Unit=>[(0,.c .ab),(1,.c (.int .i64 0)),(2,.c (.int .i64 0)),(4,.c (.raw cf))]) (fun _=>[]) (fun _=>(0:Nat)=0) (fun _=>0) () eB zZ rfl ?_
 rintro _ _
 refine oe ?_
 refine Qq (hc:=[]) (hr:=[]) (QnP cf) rfl rfl rfl (.refl _) eL ?_
 rintro _ _ ⟨rfl,rfl⟩ _
 refine ma ?_
 exact⟨rfl,rfl⟩
theorem TV (cf:Value):Fh prog 71 [] [.c .ab,.c (.raw cf)] (fun x h=>x=.aF []∧h=[]):=by
 have w0:Xz .u64 (0:Int)=0:=by rw [QM];rfl
 refine fH func71 fun C hC=>?_
 refine yG w0 ?_
 refine yC w0 (Js) ?_
 refine yG w0 ?_
 refine Qq (hc:=[]) (hr:=[]) (QnQ cf) rfl rfl rfl (.refl _) (zL w0) ?_
 rintro _ _ ⟨rfl,rfl⟩ _
 refine pw w0 ?_
 exact⟨rfl,rfl⟩
theorem QnR (cf:Value):Fh prog 307 [] [.c .ab,.c (.int .i64 0),.c (.int .i64 0),.c (.raw cf)] (fun x h=>x=.aF []∧h=[]):=by
 refine fH func307 fun C hC=>?_
 refine xG ?_
 refine Qh (fun _:Unit=>[(8,.c (.int .i64 1)),(2,.c (.int .i64 0))]) (fun _=>[]) (fun _=>(0:Nat)=0) (fun _=>0) () eB zZ rfl ?_
 rintro _ _
 refine qF ?_
 exact⟨rfl,rfl⟩
theorem QnS (cf:Value):Fh prog 206 [] [.c .ab,.c (.int .i64 0),.c (.int .i64 0),.c (.int .i64 0),.c (.raw cf)] (fun x h=>x=.aF []∧h=[]):=by
 refine fH func206 fun C hC=>?_
 refine xG ?_
 refine Qh (fun _:Unit=>[(0,.c .ab),(1,.c (.int .i64 0)),(2,.c (.int .i64 0)),(4,.c (.raw cf))]) (fun _=>[]) (fun _=>(0:Nat)=0) (fun _=>0) () eB zZ rfl ?_
 rintro _ _
 refine oe ?_
 refine Qq (hc:=[]) (hr:=[]) (QnR cf) rfl rfl rfl (.refl _) eL ?_
 rintro _ _ ⟨rfl,rfl⟩ _
 refine ma ?_
 exact⟨rfl,rfl⟩
theorem TW (cf:Value):Fh prog 126 [] [.c .ab,.c (.raw cf)] (fun x h=>x=.aF []∧h=[]):=by
 have w0:Xz .u64 (0:Int)=0:=by rw [QM];rfl
 refine fH func126 fun C hC=>?_
 refine yG w0 ?_
 refine yC w0 (Js) ?_
 refine yG w0 ?_
 refine Qq (hc:=[]) (hr:=[]) (QnS cf) rfl rfl rfl (.refl _) (zL w0) ?_
 rintro _ _ ⟨rfl,rfl⟩ _
 refine pw w0 ?_
 exact⟨rfl,rfl⟩
theorem QnT:Fh prog 232 [] [.c .ab,.c (.int .i64 0),.c (.int .i64 0)] (fun x h=>x=.aF []∧h=[]):=by
 refine fH func232 fun C hC=>?_
 refine xG ?_
 refine Qh (fun _:Unit=>[(6,.c (.int .i64 1)),(2,.c (.int .i64 0))]) (fun _=>[]) (fun _=>(0:Nat)=0) (fun _=>0) () eB zZ rfl ?_
 rintro _ _
 refine qF ?_
 exact⟨rfl,rfl⟩
theorem QnU:Fh prog 133 [] [.c .ab,.c (.int .i64 0),.c (.int .i64 0),.c (.int .i64 0)] (fun x h=>x=.aF []∧h=[]):=by
 refine fH func133 fun C hC=>?_
 refine xG ?_
 refine Qh (fun _:Unit=>[(0,.c .ab),(1,.c (.int .i64 0)),(2,.c (.int .i64 0))]) (fun _=>[]) (fun _=>(0:Nat)=0) (fun _=>0) () eB zZ rfl ?_
 rintro _ _
 refine oe ?_
 refine Qq (hc:=[]) (hr:=[]) (QnT) rfl rfl rfl (.refl _) eL ?_
 rintro _ _ ⟨rfl,rfl⟩ _
 refine ma ?_
 exact⟨rfl,rfl⟩
theorem TY:Fh prog 68 [] [.c .ab] (fun x h=>x=.aF []∧h=[]):=by
 have w0:Xz .u64 (0:Int)=0:=by rw [QM];rfl
 refine fH func68 fun C hC=>?_
 refine yG w0 ?_
 refine yC w0 (Js) ?_
 refine yG w0 ?_
 refine Qq (hc:=[]) (hr:=[]) (QnU) rfl rfl rfl (.refl _) (zL w0) ?_
 rintro _ _ ⟨rfl,rfl⟩ _
 refine pw w0 ?_
 exact⟨rfl,rfl⟩
theorem Qqm (og:Option Nat) (xs:List Vq) (ax:og=none→xs.length=0) (hn:(xs.map Vq.name).Nodup) (hl:xs.length≤1099511627776):
  Fh prog 59 (gh og 103 (xs.length*2) (Zv xs)) [.c (gs og 2 xs.length),.c (.raw (.func (.func 60) #[] #[]))] (fun x h=>x=.aF []∧h=gh og 103 (xs.length*2) (Zv (Ql Vq.name xs))):=by
 cases og with
 |none=>
  have h0:xs=[]:=Lh.1 (ax rfl)
  subst h0
  exact TR _
 |some g=>
  refine(UQ QsL (k:=2) Af (fun w=>isAgg103 w) (fun w=>sizeOf103 w) (fs:=59) rfl ⟨_,func59,rfl,rfl⟩ Qv3 103 kr bw Vq.name (fun x=>⟨_,rfl,rfl,rfl⟩) xs om g).mono ?_
  rintro _ _ ⟨rfl,ys,h1,h2,rfl⟩
  rw [K8 h1 h2 hn]
  exact⟨rfl,rfl⟩
theorem Qqn (og:Option Nat) (xs:List X7) (ax:og=none→xs.length=0) (hn:(xs.map X7.name).Nodup) (hl:xs.length≤1099511627776):
  Fh prog 63 (gh og 101 (xs.length*11) (Zu xs)) [.c (gs og 11 xs.length),.c (.raw (.func (.func 64) #[] #[]))] (fun x h=>x=.aF []∧h=gh og 101 (xs.length*11) (Zu (Ql X7.name xs))):=by
 cases og with
 |none=>
  have h0:xs=[]:=Lh.1 (ax rfl)
  subst h0
  exact TS _
 |some g=>
  refine(UQ QsN (k:=11) Af (fun w=>isAgg101 w) (fun w=>sizeOf101 w) (fs:=63) rfl ⟨_,func63,rfl,rfl⟩ Qv4 101 OD bn X7.name (fun x=>⟨_,rfl,rfl,rfl⟩) xs om g).mono ?_
  rintro _ _ ⟨rfl,ys,h1,h2,rfl⟩
  rw [K8 h1 h2 hn]
  exact⟨rfl,rfl⟩
theorem Qqo (og:Option Nat) (xs:List YT) (ax:og=none→xs.length=0) (hn:(xs.map YT.name).Nodup) (hl:xs.length≤1099511627776):
  Fh prog 65 (gh og 105 (xs.length*3) (V0 xs)) [.c (gs og 3 xs.length),.c (.raw (.func (.func 66) #[] #[]))] (fun x h=>x=.aF []∧h=gh og 105 (xs.length*3) (V0 (Ql YT.name xs))):=by
 cases og with
 |none=>
  have h0:xs=[]:=Lh.1 (ax rfl)
  subst h0
  exact TT _
 |some g=>
  refine(UQ QsO (k:=3) Af (fun w=>isAgg105 w) (fun w=>sizeOf105 w) (fs:=65) rfl ⟨_,func65,rfl,rfl⟩ Qv5 105 iO bj YT.name (fun x=>⟨_,rfl,rfl,rfl⟩) xs om g).mono ?_
  rintro _ _ ⟨rfl,ys,h1,h2,rfl⟩
  rw [K8 h1 h2 hn]
  exact⟨rfl,rfl⟩
theorem Qqp (og:Option Nat) (xs:List YU) (ax:og=none→xs.length=0) (hn:(xs.map YU.name).Nodup) (hl:xs.length≤1099511627776):
  Fh prog 69 (gh og 108 (xs.length*4) (Vs xs)) [.c (gs og 4 xs.length),.c (.raw (.func (.func 70) #[] #[]))] (fun x h=>x=.aF []∧h=gh og 108 (xs.length*4) (Vs (Ql YU.name xs))):=by
 cases og with
 |none=>
  have h0:xs=[]:=Lh.1 (ax rfl)
  subst h0
  exact TU _
 |some g=>
  refine(UQ QsP (k:=4) Af (fun w=>isAgg108 w) (fun w=>sizeOf108 w) (fs:=69) rfl ⟨_,func69,rfl,rfl⟩ Qv6 108 UF bJ YU.name (fun x=>⟨_,rfl,rfl,rfl⟩) xs om g).mono ?_
  rintro _ _ ⟨rfl,ys,h1,h2,rfl⟩
  rw [K8 h1 h2 hn]
  exact⟨rfl,rfl⟩
theorem Qqq (og:Option Nat) (xs:List Zh) (ax:og=none→xs.length=0) (hn:(xs.map Zh.event).Nodup) (hl:xs.length≤1099511627776):
  Fh prog 71 (gh og 114 (xs.length*4) (VJ xs)) [.c (gs og 4 xs.length),.c (.raw (.func (.func 72) #[] #[]))] (fun x h=>x=.aF []∧h=gh og 114 (xs.length*4) (VJ (Ql Zh.event xs))):=by
 cases og with
 |none=>
  have h0:xs=[]:=Lh.1 (ax rfl)
  subst h0
  exact TV _
 |some g=>
  refine(UQ QsQ (k:=4) Af (fun w=>isAgg114 w) (fun w=>sizeOf114 w) (fs:=71) rfl ⟨_,func71,rfl,rfl⟩ Qv7 114 O3 bE Zh.event (fun x=>⟨_,rfl,rfl,rfl⟩) xs om g).mono ?_
  rintro _ _ ⟨rfl,ys,h1,h2,rfl⟩
  rw [K8 h1 h2 hn]
  exact⟨rfl,rfl⟩
theorem Qqr (og:Option Nat) (xs:List Xk) (ax:og=none→xs.length=0) (hn:(xs.map Xk.name).Nodup) (hl:xs.length≤1099511627776):
  Fh prog 126 (gh og 71 (xs.length*7) (X1 xs)) [.c (gs og 7 xs.length),.c (.raw (.func (.func 127) #[] #[]))] (fun x h=>x=.aF []∧h=gh og 71 (xs.length*7) (X1 (Ql Xk.name xs))):=by
 cases og with
 |none=>
  have h0:xs=[]:=Lh.1 (ax rfl)
  subst h0
  exact TW _
 |some g=>
  refine(UQ QsM (k:=7) Af (fun w=>isAgg71 w) (fun w=>sizeOf71 w) (fs:=126) rfl ⟨_,func126,rfl,rfl⟩ Qv8 71 Zi aU Xk.name (fun x=>⟨_,rfl,rfl,rfl⟩) xs om g).mono ?_
  rintro _ _ ⟨rfl,ys,h1,h2,rfl⟩
  rw [K8 h1 h2 hn]
  exact⟨rfl,rfl⟩
theorem Io (og:Option Nat) (xs:List BS) (ax:og=none→xs.length=0) (hl:xs.length≤1099511627776):
  Fh prog 68 (gh og 9 (xs.length*1) (Qi xs)) [.c (gs og 1 xs.length)] (fun x h=>x=.aF []∧h=gh og 9 (xs.length*1) (Qi (Ql id xs))):=by
 cases og with
 |none=>
  have h0:xs=[]:=Lh.1 (ax rfl)
  subst h0
  exact TY
 |some g=>
  have:=Gr Mo (fs:=68) rfl ⟨_,func68,rfl,rfl⟩ 9 [] xs om g
  simp only [Lu,Nz,Ln] at this
  rw [Ad]
  exact this
theorem QnV (g:Nat) (x:BS) (xs:List BS) (hl:xs.length≤1099511627776):
  Fh prog 68 [(g,.cells 9 (1+xs.length) (Qi (x::xs)))] [.c (.aO g 1 1 xs.length)] (fun r h=>r=.aF []∧h=[(g,.cells 9 (1+xs.length) (Qi (x::Ql id xs)))]):=
 Gr Mo (fs:=68) rfl ⟨_,func68,rfl,rfl⟩ 9 [x] xs om g
theorem G6 (xs:List Nat) (hl:xs.length≤1099511627776):Fa prog 130 [.c (ws false xs)] (.c (ws true xs)):=by
 refine fA func130 fun C hC=>?_
 refine xG ?_
 refine BR (e:=180) rfl rfl rfl kR eE om fun b hb=> ?_
 refine ZA ?_
 refine xF (fun h1=>?_) fun h1=>?_
 ·have h0:xs=[]:=Lh.1 (hb h1)
  subst h0
  refine eS hC ?_
  exact .one (.c .ab)
 ·refine xG ?_
  refine Qw (xs:=[]) (cells:=[]) rfl rfl rfl eE (by refine xS ?_;rfl) rfl om om (by simp) rfl fun g hg=> ?_
  refine QY (f':=wf []) (fun j hj=>absurd hj om) ?_
  refine ZA ?_
  rcases Nat.eq_zero_or_pos xs.length with h0|h0
  ·have hp:xs=[]:=Lh.1 h0
   subst hp
   refine Vm rfl rfl rfl eE eE rfl eE .row rfl ?_
   refine ZA ?_
   refine B6 (t:=2) (wf []) eE eE om (hC g) (fun j _=>by rw [Nz]) rfl eE ?_
   refine xS ?_
   refine xT hC ?_
   exact .one (.c (.row fun j _=>.int _ _))
  ·refine YA (size:=1) (z:=[.int .u32 0]) rfl rfl rfl Xp Xf rfl om eE eE om eE .row (fun _ _=>rfl) h0 qc om eE fun g' ch=> ?_
   refine ZA ?_
   refine B6 (t:=2) (wf xs) eE eE om (hC g') (fun j hj=>by rw [Nz];simp [Xs,wf]) rfl eE ?_
   refine xS ?_
   refine xT hC ?_
   exact .one (.c (.row fun j _=>.int _ _))
theorem AD (xs:List BS) (hl:xs.length≤1048576):Fh prog 67 [] [.c (YH false xs)] (fun r h=>∃og,(og=none→xs.length=0)∧r=.c (gs og 1 xs.length)∧h=gh og 9 (xs.length*1) (Qi xs)):=by
 refine fH func67 fun C hC=>?_
 refine xG ?_
 refine BR (e:=9) rfl rfl rfl kR eE om fun b hb=> ?_
 refine ZA ?_
 refine xF (fun h1=>?_) fun h1=>?_
 ·have h0:=hb h1
  refine xG ?_
  refine xU ?_
  exact⟨none,fun _=>h0,by rw [h0];rfl,rfl⟩
 ·refine xG ?_
  refine Qw (xs:=[]) (cells:=[]) rfl rfl rfl eE (by refine xS ?_;rfl) rfl om om (by simp) rfl fun g hg=> ?_
  refine QY (f':=Qi []) (fun j hj=>absurd hj om) ?_
  refine ZA ?_
  rcases Nat.eq_zero_or_pos xs.length with h0|h0
  ·have hp:xs=[]:=Lh.1 h0
   subst hp
   refine Vm rfl rfl rfl eE eE rfl eE .row rfl ?_
   refine ma ?_
   exact⟨some g,fun _=>trivial,rfl,rfl⟩
  ·refine YA (size:=1) (z:=[.str ⟨#[]⟩]) rfl rfl rfl (by exact XY) (by exact ZS) rfl om eE eE om eE .row (fun j hj=>YI xs j) h0 qc om eE fun g' ch=> ?_
   refine ma ?_
   have hf:Xs (Qi []) 0 (Qi xs)=Qi xs:=by funext j;simp [Xs]
   rw [hf]
   exact⟨some g',(fun e=>by cases e),rfl,rfl⟩
theorem G7 (xs:List Vq) (hl:xs.length≤1048576):Fh prog 57 [] [.c (jb false xs)] (fun r h=>∃og,(og=none→xs.length=0)∧r=.c (gs og 2 xs.length)∧h=gh og 103 (xs.length*2) (Zv xs)):=by
 refine fH func57 fun C hC=>?_
 refine xG ?_
 refine BR (e:=103) rfl rfl rfl kR eE om fun b hb=> ?_
 refine ZA ?_
 refine xF (fun h1=>?_) fun h1=>?_
 ·have h0:=hb h1
  refine xG ?_
  refine xU ?_
  exact⟨none,fun _=>h0,by rw [h0];rfl,rfl⟩
 ·refine xG ?_
  refine Qw (xs:=[]) (cells:=[]) rfl rfl rfl eE (by refine xS ?_;rfl) rfl om om (by simp) rfl fun g hg=> ?_
  refine QY (f':=Zv []) (fun j hj=>absurd hj om) ?_
  refine ZA ?_
  rcases Nat.eq_zero_or_pos xs.length with h0|h0
  ·have hp:xs=[]:=Lh.1 h0
   subst hp
   refine Vm rfl rfl rfl eE eE rfl eE .row rfl ?_
   refine ma ?_
   exact⟨some g,fun _=>trivial,rfl,rfl⟩
  ·refine YA (size:=2) (z:=[.str ⟨#[]⟩,.bool false]) rfl rfl rfl (by exact QoG) (by exact QmC) rfl om eE eE om eE .row (fun j hj=>Ti xs j) h0 qc om eE fun g' ch=> ?_
   refine ma ?_
   have hf:Xs (Zv []) 0 (Zv xs)=Zv xs:=by funext j;simp [Xs]
   rw [hf]
   exact⟨some g',(fun e=>by cases e),rfl,rfl⟩
theorem K9 (r:RD) (hw:r.wf 1000):Fa prog 62 [.agg (YS r)] (.agg (YS r)):=by
 have l1:=hw.2.2.1
 have l2:=hw.2.2.2
 have f1:=G6 r.num om
 have f2:=G6 r.den om
 refine fA func62 fun C hC=>?_
 refine xG ?_
 refine xB fun g1 ah=>?_
 refine yA ah fun g2 aq=>?_
 refine zA (oj ah aq) ?_
 refine Xl 9 Qg kR ?_
 refine mv (oj ah aq) f1 f2 ?_
 refine yT hC (oj ah aq) ?_
 exact .one (.agg JI)
end Go.Proofs.YtjegkdadeghpjaaGreatDoor
namespace Go.PN
open Go.AI
theorem Gv {x:Xk} (h:Jo x.kind):aV x=⟨x.name,x.kind,x.k,Ql id x.ak,x.aH⟩:=by
 unfold aV sR
 rw [iP h]
theorem LZ {x:Xk} (h:x.kind=8) {a:BS} {l:List BS} (hi:x.ak=a::l):aV x=⟨x.name,x.kind,x.k,a::Ql id l,x.aH⟩:=by
 unfold aV sR Jo
 rw [iN om,iP h,hi]
 rfl
theorem Ip {x:Xk} (h:¬Jo x.kind) (h8:x.kind≠8):aV x=x:=by
 unfold aV sR
 rw [iN h,iN h8]
theorem KZ {α β:Type} (f:α→β) (l:List α) (d:α) {j:Nat} (hj:j<l.length):(l.map f).take (j+1)=(l.map f).take j++[f (l.getD j d)]:=by
 rw [List.take_add_one,List.getElem?_map,Li hj,Lg,Li hj];rfl
theorem JR {α β:Type} (f:α→β) (l:List α) {j:Nat} (hj:j≤l.length):((l.map f).take j).length=j:=by
 rw [List.length_take,Lw];omega
def tS (x:Xk):Prop:=x.aH.wf 1000∧1≤x.ak.length∧x.ak.length≤16∧(x.kind=8→2≤x.ak.length)
end Go.PN
namespace Go.Proofs.YtjegkdadeghpjaaGreatDoor
open Go.AI Go.PN Proofs.Tryz
abbrev mi (x:Xk) (v:CV):List CV:=[.str (sB x.name),.int .i64 x.kind,.int .i64 x.k,v,.bool x.aH.neg,ws true x.aH.num,ws true x.aH.den]
attribute [local irreducible] aw Fa VA Vk Fh YO
theorem G8 (L:List Xk) (hO:∀g∈L,tS g) (hl:L.length≤1048576) (hn:(pH L).Nodup):Fa prog 58 [.c (ca true L)] (.c (ca true (JQ L))):=by
 have l1:L.length≤1099511627776:=by omega
 refine fA func58 fun C hC=>?_
 refine zA o0 ?_
 refine Qh (fun z:Nat×Option Nat=>[(3,.c (gs z.2 7 z.1)),(6,.c (ca true L)),(7,.c (.int .i64 L.length)),(8,.c (.int .i64 z.1))]) (fun z=>gh z.2 71 (z.1*7) (X1 ((L.map aV).take z.1))) (fun z=>z.1≤L.length∧(z.2=none→z.1=0)) (fun z=>L.length-z.1) (0,none) eB zZ ⟨Lz _,fun _=>rfl⟩ ?_
 rintro ⟨j,og⟩ ⟨hj,ax⟩
 dsimp only at hj ax⊢
 by_cases ba:j<L.length
 ·have d1:decide (j<L.length)=true:=Dt ba
  have hx:=hO (L.getD j aU) (by rw [Lg,Li ba];exact Le _)
  have hT:=KZ aV L aU ba
  have dE:=JR aV L (Ll ba)
  generalize hv:L.getD j aU=x at*
  obtain⟨hd,kh,jV,hi3⟩:=hx
  have fc:=K9 x.aH hd
  refine zA (oj d1 hv) ?_
  refine yA (oj d1 hv) fun g5 aM=>?_
  refine zA (oj d1 (oj hv aM)) ?_
  refine Qq (hc:=[]) (hr:=(g5,.cells 71 7 (ao (Zi x)))::gh og 71 (j*7) (X1 ((L.map aV).take j))) (AD x.ak om) rfl rfl rfl (.refl _) (zL (oj d1 (oj hv aM))) ?_
  rintro _ _ ⟨ej,cj,rfl,rfl⟩ hk
  cases ej with
  |none=>exact absurd (cj rfl) om
  |some g2=>
   have vB:g2≠g5:=fun e=>hk g2 (by simp [Qa.keys,gh]) (by simp [Qa.keys,e])
   have aK:(g2=g5)=False:=eq_false vB
   have bc:(g5=g2)=False:=eq_false vB.symm
   refine(?_:aw _ _ _ ((g2,.cells 9 (x.ak.length*1) (Qi x.ak))::(g5,.cells 71 7 (ao (Zi x)))::gh og 71 (j*7) (X1 ((L.map aV).take j))))
   by_cases cz:Jo x.kind
   ·have hN:=Gv cz
    rw [hN] at hT
    clear hN
    obtain⟨nm,kd,kk,aZ,dm⟩:=x
    dsimp only at*
    have dZ:(Ql id aZ).length=aZ.length:=(QW id aZ).length_eq
    have bK:=Io (some g2) aZ (fun e=>by cases e) om
    simp only [Ad] at bK
    rcases cz with e|e|e|e
    all_goals
     have b0:(kd==0)=_:=congrArg (·==0) e
     have b1:(kd==1)=_:=congrArg (·==1) e
     have b2:(kd==2)=_:=congrArg (·==2) e
     have b4:(kd==4)=_:=congrArg (·==4) e
     refine Zg (oj d1 (oj hv (oj aM (oj aK (oj bc (oj b0 (oj b1 (oj b2 b4)))))))) fc ?_
     refine Qq (hc:=gh (some g2) 9 aZ.length (Qi aZ)) (hr:=(g5,.cells 71 7 (ao (mi ⟨nm,kd,kk,aZ,dm⟩ (gs (some g2) 1 aZ.length))))::gh og 71 (j*7) (X1 ((L.map aV).take j))) bK rfl rfl rfl (.refl _) (zL (oj d1 (oj hv (oj aM (oj aK (oj bc (oj b0 (oj b1 (oj b2 b4))))))))) ?_
     rintro _ _ ⟨rfl,rfl⟩ _
     refine Qj (h':=(g5,.cells 71 7 (ao (mi ⟨nm,kd,kk,aZ,dm⟩ (gs (some g2) 1 aZ.length))))::(gh (some g2) 9 (aZ.length*1) (Qi (Ql id aZ))++gh og 71 (j*7) (X1 ((L.map aV).take j)))) (by rw [Ad];exact List.Perm.swap _ _ _) ?_
     refine Q7 (j0:=3) (m:=7) (f:=ao (mi ⟨nm,kd,kk,aZ,dm⟩ (gs (some g2) 1 aZ.length))) (f':=ao (Zi ⟨nm,kd,kk,Ql id aZ,dm⟩)) (fp:=Qi (Ql id aZ)) rfl (by show CV.row true 1 _ _=CV.row true 1 _ _;rw [dZ]) (fun i hi h3=>by match i,hi,h3 with|0,_,_=>rfl|1,_,_=>rfl|2,_,_=>rfl|3,_,h=>exact absurd rfl h|4,_,_=>rfl|5,_,_=>rfl|6,_,_=>rfl) (fun e=>by cases e) (fun g _=>hC g) ?_
     have J1:=oj d1 (oj hv (oj aM (oj aK (oj bc (oj b0 (oj b1 (oj b2 b4)))))))
     refine yS J1 ?_
     refine zA J1 ?_
     refine QT (pre:=[(g5,.cells 71 7 (ao (Zi ⟨nm,kd,kk,Ql id aZ,dm⟩)))]) rfl rfl rfl rfl rfl rfl rfl (zE J1) (zE J1) (by rfl) om om (zE J1) om (by exact ax) (zE J1) (by rfl) (by rfl) qb qc om (by exact Kv dE ⟨nm,kd,kk,Ql id aZ,dm⟩) fun gq bh=> ?_
     replace bh:=Qa.ay bh
     first|dsimp only [Qa.ne,gh] at bh|dsimp only [Qa.ne] at bh|skip
     have J2:=oj d1 (oj hv (oj aM (oj aK (oj bc (oj b0 (oj b1 (oj b2 (oj b4 bh))))))))
     refine yS J2 ?_
     refine zA J2 ?_
     rw [←hT]
     refine Xa (h':=gh (some gq) 71 ((j+1)*7) (X1 ((L.map aV).take (j+1)))) (Sl.le_refl _) (.cons _ (Lr _)) ?_
     exact Qb ⟨(j+1,some gq),by dsimp only;omega,(zB J2),zZ,by dsimp only;omega,fun e=>by cases e⟩
   ·by_cases h8:x.kind=8
    ·obtain⟨nm,kd,kk,aZ,dm⟩:=x
     dsimp only at*
     subst h8
     cases aZ with
     |nil=>exact absurd kh (by simp)
     |cons a aZ=>
      have hN:=LZ (x:=⟨nm,8,kk,a::aZ,dm⟩) rfl rfl
      dsimp only at hN
      have PZ:1≤aZ.length:=by have:=hi3 rfl;simpa using this
      have hi5:aZ.length≤15:=by simpa using jV
      have dZ:(a::Ql id aZ).length=(a::aZ).length:=by simp [(QW id aZ).length_eq]
      have bK:=QnV g2 a aZ om
      rw [hN] at hT
      clear hN
      refine Zg (oj d1 (oj hv (oj aM (oj aK bc)))) fc ?_
      refine Xh (QB.jh (g:=g2) (size:=1) (off:=0) (n:=(a::aZ).length) (l:=1) (hi:=(a::aZ).length) (by exact XY) (zE (oj d1 (oj hv (oj aM (oj aK bc))))) rfl rfl (by simp) (Ac _) (.inr (by rw [Lc];omega))) rfl rfl ?_
      have J3:=oj d1 (oj hv (oj aM (oj aK bc)))
      refine yS J3 ?_
      rw [show aZ.length+1-1=aZ.length from rfl,Nat.add_comm aZ.length 1]
      refine Qq (hc:=[(g2,.cells 9 (1+aZ.length) (Qi (a::aZ)))]) (hr:=(g5,.cells 71 7 (ao (mi ⟨nm,8,kk,(a::aZ),dm⟩ (gs (some g2) 1 (1+aZ.length)))))::gh og 71 (j*7) (X1 ((L.map aV).take j))) bK rfl rfl rfl (.refl _) (zL J3) ?_
      rintro _ _ ⟨rfl,rfl⟩ _
      rw [Nat.add_comm 1 aZ.length]
      refine Qj (h':=(g5,.cells 71 7 (ao (mi ⟨nm,8,kk,(a::aZ),dm⟩ (gs (some g2) 1 (a::aZ).length))))::(gh (some g2) 9 ((a::aZ).length*1) (Qi (a::Ql id aZ))++gh og 71 (j*7) (X1 ((L.map aV).take j)))) (by rw [Ad];exact List.Perm.swap _ _ _) ?_
      refine Q7 (j0:=3) (m:=7) (f:=ao (mi ⟨nm,8,kk,(a::aZ),dm⟩ (gs (some g2) 1 (a::aZ).length))) (f':=ao (Zi ⟨nm,8,kk,a::Ql id aZ,dm⟩)) (fp:=Qi (a::Ql id aZ)) rfl (by show CV.row true 1 _ _=CV.row true 1 _ _;rw [dZ]) (fun i hi h3=>by match i,hi,h3 with|0,_,_=>rfl|1,_,_=>rfl|2,_,_=>rfl|3,_,h=>exact absurd rfl h|4,_,_=>rfl|5,_,_=>rfl|6,_,_=>rfl) (fun e=>by cases e) (fun g _=>hC g) ?_
      refine yS J3 ?_
      refine zA J3 ?_
      refine QT (pre:=[(g5,.cells 71 7 (ao (Zi ⟨nm,8,kk,a::Ql id aZ,dm⟩)))]) rfl rfl rfl rfl rfl rfl rfl (zE J3) (zE J3) (by rfl) om om (zE J3) om (by exact ax) (zE J3) (by rfl) (by rfl) qb qc om (by exact Kv dE ⟨nm,8,kk,a::Ql id aZ,dm⟩) fun gq bh=> ?_
      replace bh:=Qa.ay bh
      first|dsimp only [Qa.ne,gh] at bh|dsimp only [Qa.ne] at bh|skip
      have J4:=oj d1 (oj hv (oj aM (oj aK (oj bc bh))))
      refine yS J4 ?_
      refine zA J4 ?_
      rw [←hT]
      refine Xa (h':=gh (some gq) 71 ((j+1)*7) (X1 ((L.map aV).take (j+1)))) (Sl.le_refl _) (.cons _ (Lr _)) ?_
      exact Qb ⟨(j+1,some gq),by dsimp only;omega,(zB J4),zZ,by dsimp only;omega,fun e=>by cases e⟩
    ·have hN:=Ip cz h8
     rw [hN] at hT
     clear hN
     obtain⟨nm,kd,kk,aZ,dm⟩:=x
     dsimp only at*
     have dZ:aZ.length=aZ.length:=rfl
     have b0:(kd==0)=false:=by unfold Jo at cz;simp only [beq_eq_false_iff_ne];omega
     have b1:(kd==1)=false:=by unfold Jo at cz;simp only [beq_eq_false_iff_ne];omega
     have b2:(kd==2)=false:=by unfold Jo at cz;simp only [beq_eq_false_iff_ne];omega
     have b4:(kd==4)=false:=by unfold Jo at cz;simp only [beq_eq_false_iff_ne];omega
     have b8:(kd==8)=false:=by simp only [beq_eq_false_iff_ne];omega
     refine zA (oj d1 (oj hv (oj aM (oj aK (oj bc (oj b0 (oj b1 (oj b2 (oj b4 b8))))))))) ?_
     refine Qj (h':=(g5,.cells 71 7 (ao (mi ⟨nm,kd,kk,aZ,dm⟩ (gs (some g2) 1 aZ.length))))::(gh (some g2) 9 (aZ.length*1) (Qi aZ)++gh og 71 (j*7) (X1 ((L.map aV).take j)))) (by rw [Ad];exact List.Perm.swap _ _ _) ?_
     refine Q7 (j0:=3) (m:=7) (f:=ao (mi ⟨nm,kd,kk,aZ,dm⟩ (gs (some g2) 1 aZ.length))) (f':=ao (Zi ⟨nm,kd,kk,aZ,dm⟩)) (fp:=Qi aZ) rfl rfl (fun i hi h3=>by match i,hi,h3 with|0,_,_=>rfl|1,_,_=>rfl|2,_,_=>rfl|3,_,h=>exact absurd rfl h|4,_,_=>rfl|5,_,_=>rfl|6,_,_=>rfl) (fun e=>by cases e) (fun g _=>hC g) ?_
     have J5:=oj d1 (oj hv (oj aM (oj aK (oj bc (oj b0 (oj b1 (oj b2 (oj b4 b8))))))))
     refine yS J5 ?_
     refine Zg J5 fc ?_
     refine QT (pre:=[(g5,.cells 71 7 (ao (Zi ⟨nm,kd,kk,aZ,dm⟩)))]) rfl rfl rfl rfl rfl rfl rfl (zE J5) (zE J5) (by rfl) om om (zE J5) om (by exact ax) (zE J5) (by rfl) (by rfl) qb qc om (by exact Kv dE ⟨nm,kd,kk,aZ,dm⟩) fun gq bh=> ?_
     replace bh:=Qa.ay bh
     first|dsimp only [Qa.ne,gh] at bh|dsimp only [Qa.ne] at bh|skip
     have J6:=oj d1 (oj hv (oj aM (oj aK (oj bc (oj b0 (oj b1 (oj b2 (oj b4 (oj b8 bh)))))))))
     refine yS J6 ?_
     refine zA J6 ?_
     rw [←hT]
     refine Xa (h':=gh (some gq) 71 ((j+1)*7) (X1 ((L.map aV).take (j+1)))) (Sl.le_refl _) (.cons _ (Lr _)) ?_
     exact Qb ⟨(j+1,some gq),by dsimp only;omega,(zB J6),zZ,by dsimp only;omega,fun e=>by cases e⟩
 ·have d1:decide (j<L.length)=false:=De ba
  obtain rfl:j=L.length:=by omega
  have hT:(L.map aV).take L.length=L.map aV:=Ly (by simp)
  have pX:(L.map aV).length=L.length:=by simp
  have bK:=Qqr og (L.map aV) (by rw [pX];exact ax) (by rw [List.map_map];exact hn) (by rw [pX];omega)
  rw [hT]
  rw [pX] at bK
  refine zA d1 ?_
  refine Qq (hc:=gh og 71 (L.length*7) (X1 (L.map aV))) (hr:=[]) bK rfl rfl rfl (by rw [Lp]) (zL d1) ?_
  rintro _ _ ⟨rfl,rfl⟩ _
  refine yS d1 ?_
  refine zA d1 ?_
  have bZ:(JQ L).length=L.length:=by unfold JQ;rw [(QW _ _).length_eq,pX]
  refine Qj (h':=gh og 71 (L.length*7) (X1 (JQ L))++[]) (by rw [Lp];exact .refl _) ?_
  refine Z8 (t:=2) (s:=7) (f:=X1 (JQ L)) (f':=X1 (JQ L)) ax bZ.symm (zE d1) (fun g _=>hC g) (fun i _=>rfl) (zE d1) ?_
  refine yS d1 ?_
  refine yT hC d1 ?_
  exact .one (.c JM)
end Go.Proofs.YtjegkdadeghpjaaGreatDoor
namespace Go.AI
def Jt:List Oper→Nat→Nat→List Oper
 |[],_,_=>[]
 |o::l,0,i=>{o with after:=o.after.push {on:=i,ground:=.data}}::l
 |o::l,j+1,i=>o::Jt l j i
theorem Oa:∀(l:List Oper) (j i:Nat),(Jt l j i).length=l.length
 |[],_,_=>rfl
 |o::l,0,i=>rfl
 |o::l,j+1,i=>by simp [Jt,Oa l j i]
theorem tV:∀(l:List Oper) (j i k:Nat),k≠j→(Jt l j i)[k]?=l[k]?
 |[],_,_,_,_=>rfl
 |o::l,0,i,0,h=>absurd rfl h
 |o::l,0,i,k+1,_=>by simp [Jt]
 |o::l,j+1,i,0,_=>by simp [Jt]
 |o::l,j+1,i,k+1,h=>by simp [Jt,tV l j i k (fun e=>h om)]
theorem tW:∀(l:List Oper) (j i:Nat),(Jt l j i)[j]?=(l[j]?).map fun o=>{o with after:=o.after.push {on:=i,ground:=.data}}
 |[],_,_=>rfl
 |o::l,0,i=>by simp [Jt]
 |o::l,j+1,i=>by simp [Jt,tW l j i]
section
variable {P : Program} {Q : Exit → Act → World → Prop} {l : List Oper} {i0 j0 : Nat}
theorem Ch {ops:Array Oper} {listed:Array Bool} {i:Nat}:i∈Region.ready .any ops listed↔i<ops.size∧listed.getD i true=false∧∃o,ops[i]?=some o∧∀e∈o.after,Region.binds .any e=true→listed.getD e.on false=true:=by
 unfold Region.ready
 rw [List.mem_filter,List.mem_range]
 constructor
 ·rintro ⟨h1,h2⟩
  rw [Ba,Bool.not_eq_true'] at h2
  obtain⟨h2,h3⟩:=h2
  refine⟨h1,h2,ops[i],by simp [h1],fun e he hb=> ?_⟩
  rw [show ops[i]?=some ops[i] from by simp [h1]] at h3
  simp only [Option.map_some,Option.getD_some,Array.all_eq_true'] at h3
  have:=h3 e he
  rw [hb] at this
  simpa using this
 ·rintro ⟨h1,h2,o,ho,h3⟩
  refine⟨h1,?_⟩
  rw [h2,ho]
  simp only [Bool.not_false,Bool.true_and,Option.map_some,Option.getD_some,Array.all_eq_true']
  intro e he
  cases hb:Region.binds .any e with
  |false=>rfl
  |true=>rw [h3 e he hb];rfl
theorem Gw {listed:Array Bool} {i:Nat} (h:i∈Region.ready .any (Jt l j0 i0).toArray listed):i∈Region.ready .any l.toArray listed:=by
 rw [Ch] at h⊢
 obtain⟨h1,h2,o,ho,h3⟩:=h
 simp only [List.size_toArray,Oa,List.getElem?_toArray] at h1 ho⊢
 refine⟨h1,h2,?_⟩
 by_cases e:i=j0
 ·subst e
  rw [tW] at ho
  obtain⟨o',fi,rfl⟩:=Option.map_eq_some_iff.1 ho
  exact⟨o',fi,fun e he hb=>h3 e (by simp [he]) hb⟩
 ·rw [tV _ _ _ _ e] at ho
  exact⟨o,ho,h3⟩
theorem Ju {listed:Array Bool} {i:Nat} (h:i∈Region.ready .any l.toArray listed) (hi:i≠j0∨listed.getD i0 false=true):i∈Region.ready .any (Jt l j0 i0).toArray listed:=by
 rw [Ch] at h⊢
 obtain⟨h1,h2,o,ho,h3⟩:=h
 simp only [List.size_toArray,Oa,List.getElem?_toArray] at h1 ho⊢
 refine⟨h1,h2,?_⟩
 by_cases e:i=j0
 ·subst e
  have hl:=hi.resolve_left (fun h=>h rfl)
  rw [tW,ho]
  refine⟨_,rfl,fun e he hb=> ?_⟩
  simp only [Array.mem_push] at he
  rcases he with he|rfl
  ·exact h3 e he hb
  ·exact hl
 ·rw [tV _ _ _ _ e]
  exact⟨o,ho,h3⟩
def Ord (ops:Array Oper):Nat→Array Bool→List Nat→Prop
 |0,_,π=>π=[]
 |_+1,listed,[]=>Region.ready .any ops listed=[]
 |n+1,listed,i::π=>i∈Region.ready .any ops listed∧Ord ops n (listed.setIfInBounds i true) π
theorem QsY {ops:Array Oper}:∀(n:Nat) (listed:Array Bool) (π:List Nat) (a:Act) (w:World),wpAny P .any ops Q n listed a w→Ord ops n listed π→wpOps P ops Q π a w:=by
 intro n
 induction n with
 |zero=>intro listed π a w h ho;obtain rfl:π=[]:=ho;simpa [wpOps] using h.2
 |succ n ih=>
  intro listed π a w h ho
  cases π with
  |nil=>simpa [wpOps] using h.1 ho
  |cons i π=>
   rw [wpOps_cons]
   exact wpOp_mono (fun a w k=>ih _ π a w k ho.2) (h.2 i ho.1)
theorem QuN {ops:Array Oper}:∀(fuel t:Nat) (listed:Array Bool),Ord ops fuel listed (Region.linearise.go .any ops fuel t listed []):=by
 intro fuel
 induction fuel with
 |zero=>intro t listed;rfl
 |succ fuel ih=>
  intro t listed
  simp only [Region.linearise.go]
  change Ord ops (fuel+1) listed (match (Region.ready .any ops listed)[t%(Region.ready .any ops listed).length]? with
   |some i=>Region.linearise.go .any ops fuel (t/(Region.ready .any ops listed).length) (listed.setIfInBounds i true) [i]
   |none=>[].reverse)
  cases hi:(Region.ready .any ops listed)[t%(Region.ready .any ops listed).length]? with
  |none=>
   show Region.ready .any ops listed=[]
   cases hr:Region.ready .any ops listed with
   |nil=>rfl
   |cons x xs=>
    rw [hr] at hi
    have aD:t%(x::xs).length<(x::xs).length:=Nat.mod_lt _ (by simp)
    simp at hi
    simp at aD
    omega
  |some i=>
   simp only []
   rw [linearise_go_acc,List.reverse_singleton,List.singleton_append]
   exact⟨List.mem_of_getElem? hi,ih _ _⟩
theorem QsZ {listed:Array Bool} {i k:Nat} (h:listed.getD k false=true):(listed.setIfInBounds i true).getD k false=true:=by
 rw [Array.getD_eq_getD_getElem?] at h⊢
 rw [Array.getElem?_setIfInBounds]
 split
 ·split
  ·rfl
  ·rename_i h1 h2
   subst h1
   rw [Array.getElem?_eq_none om] at h
   cases h
 ·exact h
theorem Iq {listed:Array Bool} {i:Nat} (h:listed.getD i true=false):(listed.setIfInBounds i true).getD i false=true:=by
 rw [Array.getD_eq_getD_getElem?] at h⊢
 by_cases hi:i<listed.size
 ·rw [Array.getElem?_setIfInBounds_self_of_lt hi];rfl
 ·rw [Array.getElem?_eq_none om] at h;cases h
theorem Ir:∀(n:Nat) (listed:Array Bool) (π:List Nat),listed.getD i0 false=true→Ord l.toArray n listed π→Ord (Jt l j0 i0).toArray n listed π:=by
 intro n
 induction n with
 |zero=>intro listed π _ h;exact h
 |succ n ih=>
  intro listed π hl h
  cases π with
  |nil=>
   show Region.ready .any (Jt l j0 i0).toArray listed=[]
   have h':Region.ready .any l.toArray listed=[]:=h
   refine List.eq_nil_iff_forall_not_mem.2 fun i hi=> ?_
   have:=Gw hi
   rw [h'] at this
   cases this
  |cons i π=>exact⟨Ju h.1 (.inr hl),ih _ π (QsZ hl) h.2⟩
theorem Qs0 (aK:i0≠j0):∀(n:Nat) (listed:Array Bool) (π:List Nat),Ord l.toArray n listed π→Ord (Jt l j0 i0).toArray n listed π∨Ord (Jt l i0 j0).toArray n listed π:=by
 intro n
 induction n with
 |zero=>intro listed π h;exact .inl h
 |succ n ih=>
  intro listed π h
  cases π with
  |nil=>
   refine .inl ?_
   show Region.ready .any (Jt l j0 i0).toArray listed=[]
   have h':Region.ready .any l.toArray listed=[]:=h
   refine List.eq_nil_iff_forall_not_mem.2 fun i hi=> ?_
   have:=Gw hi
   rw [h'] at this
   cases this
  |cons i π=>
   obtain⟨h1,h2⟩:=h
   have bZ:=(Ch.1 h1).2.1
   by_cases e1:i=i0
   ·subst e1
    exact .inl ⟨Ju h1 (.inl aK),Ir n _ π (Iq bZ) h2⟩
   ·by_cases e2:i=j0
    ·subst e2
     exact .inr ⟨Ju h1 (.inl e1),Ir n _ π (Iq bZ) h2⟩
    ·rcases ih _ π h2 with h|h
     ·exact .inl ⟨Ju h1 (.inl e2),h⟩
     ·exact .inr ⟨Ju h1 (.inl e1),h⟩
theorem QnW {k:Nat} {K:Act→World→Prop} {a:Act} {w:World}:wpOp P (Jt l j0 i0).toArray Q k K a w=wpOp P l.toArray Q k K a w:=by
 have hy:yielded (Jt l j0 i0).toArray a.tmps=yielded l.toArray a.tmps:=by
  funext j
  have:((Jt l j0 i0).toArray[j]?).bind (·.dst)=(l.toArray[j]?).bind (·.dst):=by
   simp only [List.getElem?_toArray]
   by_cases e:j=j0
   ·subst e;rw [tW];cases l[j]?<;>rfl
   ·rw [tV _ _ _ _ e]
  unfold yielded
  rw [this]
 unfold wpOp
 rw [hy]
 simp only [List.getElem?_toArray]
 by_cases e:k=j0
 ·subst e
  rw [tW]
  cases l[k]?<;>rfl
 ·rw [tV _ _ _ _ e]
theorem Gx:∀(π:List Nat) (a:Act) (w:World),wpOps P (Jt l j0 i0).toArray Q π a w→wpOps P l.toArray Q π a w:=by
 intro π
 induction π with
 |nil=>intro a w h;exact h
 |cons k π ih=>
  intro a w h
  rw [wpOps_cons] at h⊢
  rw [QnW] at h
  exact wpOp_mono (fun a w k=>ih a w k) h
end
section
variable {E : Vj} {K : List It} {l : List Oper} {σ : Sl} {h : Qa}
def uC (E:Vj) (K:List It) (l:List Oper) (σ:Sl) (h:Qa):Prop:=
 ∀(a:Act) (w:World),St E.N E.C σ h a w→∀π,Ord l.toArray l.length (Array.replicate l.length false) π→wpOps E.P l.toArray (ep E K) π a {w with drawn:=w.drawn+1}
theorem L0 (i0 j0:Nat) (aK:i0≠j0) (k1:uC E K (Jt l j0 i0) σ h) (k2:uC E K (Jt l i0 j0) σ h):uC E K l σ h:=fun a w s π ho=>by
 rcases Qs0 aK _ _ _ ho with h|h
 ·exact Gx π _ _ (k1 a w s π (by rw [Oa];exact h))
 ·exact Gx π _ _ (k2 a w s π (by rw [Oa];exact h))
theorem Nu {id:Nat} (hm:E.P.follows .mixedOrders=true) (k:uC E K l σ h):aw E (.code (.region id l.toArray true)::K) σ h:=fun a w s=>by
 refine wp_region_draw fun t=> ?_
 simp only [Region.schedule,hm,Bool.true_or,if_true]
 have:=k a w s _ (QuN l.toArray.size t (Array.replicate l.toArray.size false))
 exact this
theorem Qs1 {l:List Oper}:∀(cs:List (Nat×Nat)) (seen pn fr:List Nat),OA l seen pn fr cs=true→∀i o,i∈cs.map (·.1)→l[i]?=some o→∀e∈o.after,Region.binds .any e=true→e.on∈seen∨(e.on∈cs.map (·.1)∧(cs.map (·.1)).idxOf e.on<(cs.map (·.1)).idxOf i):=by
 intro cs
 induction cs with
 |nil=>intro seen pn fr _ i o hi;cases hi
 |cons c cs ih=>
  intro seen pn fr hg i o hi ho e he hb
  obtain⟨c,b⟩:=c
  have dx:=WO hg
  simp only [OA,Ba] at hg
  obtain⟨h1,h2⟩:=hg
  by_cases tq:i=c
  ·subst tq
   split at h1
   ·cases h1
   ·rename_i o' fi
    rw [ho] at fi
    injection fi with fi
    subst fi
    simp only [Ba] at h1
    exact .inl (BK h1.1.1.2 he hb)
  ·have hi':i∈cs.map (·.1):=by
    simp only [Ld,Lb] at hi
    exact hi.resolve_left tq
   rcases ih _ _ _ h2 i o hi' ho e he hb with h|⟨h3,h4⟩
   ·rcases Lb.1 h with h|h
    ·refine .inr ⟨by rw [h];simp,?_⟩
     rw [h]
     have b1:(c==i)=false:=beq_eq_false_iff_ne.2 fun h=>tq h.symm
     simp only [Ld,List.idxOf_cons,b1,cond_false,beq_self_eq_true,cond_true]
     omega
    ·exact .inl h
   ·refine .inr ⟨by simp only [Ld,Lb];exact .inr h3,?_⟩
    by_cases PM:e.on=c
    ·exact absurd (Lf ..) (WO h2 _ (PM▸h3))
    ·have b1:(c==i)=false:=beq_eq_false_iff_ne.2 fun h=>tq h.symm
     have b2:(c==e.on)=false:=beq_eq_false_iff_ne.2 fun h=>PM h.symm
     simp only [Ld,List.idxOf_cons,b1,b2,cond_false]
     omega
theorem Qs2 {l:List Oper}:∀{cs:List (Nat×Nat)} {seen pn fr:List Nat},OA l seen pn fr cs=true→∀i∈cs.map (·.1),i<l.length:=by
 intro cs
 induction cs with
 |nil=>intro seen pn fr _ i hi;cases hi
 |cons c cs ih=>
  intro seen pn fr hg i hi
  obtain⟨c,b⟩:=c
  simp only [OA,Ba] at hg
  obtain⟨h1,h2⟩:=hg
  simp only [Ld,Lb] at hi
  rcases hi with rfl|hi
  ·split at h1
   ·cases h1
   ·rename_i o ho
    exact(List.getElem?_eq_some_iff.1 ho).1
  ·exact ih h2 i hi
theorem x8 (FP:Qa) (cs:List (Nat×Nat)) (bo:(od l&&OA l [] [] [] cs&&((List.range l.length).all fun i=>(cs.map (·.1)).contains i))=true) (fK:Kq FP h) (k:CW E l K FP cs σ h):uC E K l σ h:=fun a w s π ho=>by
 simp only [Ba] at bo
 obtain⟨⟨dp,cC⟩,bQ⟩:=bo
 have EF:CM l:=⟨fun i=>(cs.map (·.1)).idxOf i,fun i o ho e he hb=>by
  have hi:=(List.getElem?_eq_some_iff.1 ho).1
  have hm:∀q,q<l.length→q∈cs.map (·.1):=fun q hq=>by simpa using List.all_eq_true.1 bQ q (List.mem_range.2 hq)
  rcases Qs1 cs [] [] [] cC i o (hm i hi) ho e he hb with h|⟨h3,h4⟩
  ·cases h
  ·exact⟨Qs2 cC _ h3,h4⟩⟩
 have s':=s.later (Fr.drew (fun _=>False) w (w.drawn+1))
 have e0:∀j,(Array.replicate l.length false).getD j false=false:=fun j=>by
  rw [Array.getD_eq_getD_getElem?]
  simp only [Array.getElem?_replicate]
  split<;>rfl
 have mW:∀m,fx (fun j=>(Array.replicate l.length false).getD j false) m=m:=by
  intro m
  induction m with
  |zero=>rfl
  |succ m ih=>rw [fx,ih,e0];rfl
 refine QsY _ _ _ _ _ ?_ ho
 have:=I5 (E:=E) (K:=K) (σ0:=σ) dp EF l.length FP (Array.replicate l.length false) σ h a {w with drawn:=w.drawn+1} (mW _) ⟨[],[],[],cs,σ,fun _=>.c .any,by simp,fun i o _ hl=>(by rw [e0] at hl;cases hl),cC,fun i hi=>absurd hi Lj,fun i hi=>.inr ?_,k,fK,fun j hj=>absurd hj Lj,⟨fun j _ _ hj=>absurd hj Lj,fun _ _=>rfl⟩,fun i hi=>absurd hi Lj,fun p hp=>absurd hp Lj,⟨fun j _ _ hj=>(by rw [e0] at hj;cases hj),fun _ _=>rfl⟩,fun i _ hl=>(by rw [e0] at hl;cases hl)⟩ s'
 ·simpa using this
 ·have:=List.all_eq_true.1 bQ i (List.mem_range.2 hi)
  simpa using this
end
end Go.AI
