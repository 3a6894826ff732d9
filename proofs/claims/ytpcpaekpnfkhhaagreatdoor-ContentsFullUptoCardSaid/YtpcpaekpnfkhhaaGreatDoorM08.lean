/- Parts of one proof, laid by a program. -/
import Derived.Test.YtpcpaekpnfkhhaaGreatDoorM00
import Derived.Test.YtpcpaekpnfkhhaaGreatDoorM07
import Derived.Test.YtpcpaekpnfkhhaaGreatDoorProg
import Derived.Shelf.SlSortCmp.WholeK
import Derived.Shelf.Sort.Plain
set_option linter.unusedSimpArgs false
set_option linter.unusedVariables false
set_option maxRecDepth 100000
set_option maxHeartbeats 12800000
namespace Go.Proofs.YtpcpaekpnfkhhaaGreatDoor
open Go.Shelf Go.Proofs
def sortHsRen:Go.Shelf.Ren:=⟨fun|6=>42|15=>99|14=>98|28=>164|29=>165|20=>156|21=>157|22=>158|23=>159|24=>160|25=>161|26=>162|27=>163|46=>263|47=>264|48=>265|49=>266|50=>267|57=>312|n=>n,fun|22=>23|24=>105|25=>109|3=>3|39=>166|0=>0|53=>168|55=>39|4=>4|46=>217|45=>216|50=>221|5=>5|9=>9|66=>284|70=>288|76=>323|77=>176|n=>n,fun n=>n⟩
theorem sortHsL:SlLaysF0.n6 Tryz.prog sortHsRen where
 mixed:=by kernel_rfl
 f6:=⟨"slices.SortFunc[[]faultline/api.House,faultline/api.House]",by decide,Tryz.func42.trans eK⟩
 f14:=⟨"slices.pdqsortCmpFunc[faultline/api.House]",by decide,Tryz.func98.trans eK⟩
 f15:=Tryz.func99.trans eK
 f20:=⟨"slices.insertionSortCmpFunc[faultline/api.House]",by decide,Tryz.func156.trans eK⟩
 f21:=⟨"slices.heapSortCmpFunc[faultline/api.House]",by decide,Tryz.func157.trans eK⟩
 f22:=⟨"slices.breakPatternsCmpFunc[faultline/api.House]",by decide,Tryz.func158.trans eK⟩
 f23:=⟨"slices.choosePivotCmpFunc[faultline/api.House]",by decide,Tryz.func159.trans eK⟩
 f24:=⟨"slices.reverseRangeCmpFunc[faultline/api.House]",by decide,Tryz.func160.trans eK⟩
 f25:=⟨"slices.partialInsertionSortCmpFunc[faultline/api.House]",by decide,Tryz.func161.trans eK⟩
 f26:=⟨"slices.partitionEqualCmpFunc[faultline/api.House]",by decide,Tryz.func162.trans eK⟩
 f27:=⟨"slices.partitionCmpFunc[faultline/api.House]",by decide,Tryz.func163.trans eK⟩
 f28:=Tryz.func164.trans eK
 f29:=Tryz.func165.trans eK
 f46:=⟨"slices.siftDownCmpFunc[faultline/api.House]",by decide,Tryz.func263.trans eK⟩
 f47:=Tryz.func264.trans eK
 f48:=Tryz.func265.trans eK
 f49:=⟨"slices.medianAdjacentCmpFunc[faultline/api.House]",by decide,Tryz.func266.trans eK⟩
 f50:=⟨"slices.medianCmpFunc[faultline/api.House]",by decide,Tryz.func267.trans eK⟩
 f57:=⟨"slices.order2CmpFunc[faultline/api.House]",by decide,Tryz.func312.trans eK⟩
 t0:=Tryz.underlying0
 a0:=Tryz.isAgg0
 z0:=Tryz.sizeOf0
 v0:=Tryz.zeroValue0
 t3:=Tryz.underlying3
 a3:=Tryz.isAgg3
 z3:=Tryz.sizeOf3
 v3:=Tryz.zeroValue3
 t4:=Tryz.underlying4
 a4:=Tryz.isAgg4
 z4:=Tryz.sizeOf4
 v4:=Tryz.zeroValue4
 t5:=Tryz.underlying5
 a5:=Tryz.isAgg5
 z5:=Tryz.sizeOf5
 v5:=Tryz.zeroValue5
 t9:=Tryz.underlying9
 a9:=Tryz.isAgg9
 z9:=Tryz.sizeOf9
 v9:=Tryz.zeroValue9
 t22:=Tryz.underlying23
 a22:=Tryz.isAgg23
 z22:=Tryz.sizeOf23
 v22:=Tryz.zeroValue23
 t25:=Tryz.underlying109
 a25:=Tryz.isAgg109
 z25:=Tryz.sizeOf109
 v25:=Tryz.zeroValue109
 t39:=Tryz.underlying166
 a39:=Tryz.isAgg166
 z39:=Tryz.sizeOf166
 v39:=Tryz.zeroValue166
 t45:=Tryz.underlying216
 a45:=Tryz.isAgg216
 z45:=Tryz.sizeOf216
 v45:=Tryz.zeroValue216
 t46:=Tryz.underlying217
 a46:=Tryz.isAgg217
 z46:=Tryz.sizeOf217
 v46:=Tryz.zeroValue217
 t50:=Tryz.underlying221
 a50:=Tryz.isAgg221
 z50:=Tryz.sizeOf221
 v50:=Tryz.zeroValue221
 t53:=Tryz.underlying168
 a53:=Tryz.isAgg168
 z53:=Tryz.sizeOf168
 v53:=Tryz.zeroValue168
 t55:=Tryz.underlying39
 a55:=Tryz.isAgg39
 z55:=Tryz.sizeOf39
 v55:=Tryz.zeroValue39
 t66:=Tryz.underlying284
 a66:=Tryz.isAgg284
 z66:=Tryz.sizeOf284
 v66:=Tryz.zeroValue284
 t70:=Tryz.underlying288
 a70:=Tryz.isAgg288
 z70:=Tryz.sizeOf288
 v70:=Tryz.zeroValue288
 t76:=Tryz.underlying323
 a76:=Tryz.isAgg323
 z76:=Tryz.sizeOf323
 v76:=Tryz.zeroValue323
 t77:=Tryz.underlying176
 a77:=Tryz.isAgg176
 z77:=Tryz.sizeOf176
 v77:=Tryz.zeroValue176
def sortGtRen:Go.Shelf.Ren:=⟨fun|6=>96|15=>99|14=>155|28=>164|29=>165|20=>255|21=>256|22=>257|23=>258|24=>259|25=>260|26=>261|27=>262|46=>309|47=>264|48=>265|49=>310|50=>311|57=>337|n=>n,fun|22=>24|24=>140|25=>163|3=>3|39=>166|0=>0|53=>168|55=>39|4=>4|46=>217|45=>216|50=>221|5=>5|9=>9|66=>284|70=>288|76=>323|77=>176|n=>n,fun n=>n⟩
theorem sortGtL:SlLaysF0.n6 Tryz.prog sortGtRen where
 mixed:=by kernel_rfl
 f6:=⟨"slices.SortFunc[[]faultline/api.Gate,faultline/api.Gate]",by decide,Tryz.func96.trans eK⟩
 f14:=⟨"slices.pdqsortCmpFunc[faultline/api.Gate]",by decide,Tryz.func155.trans eK⟩
 f15:=Tryz.func99.trans eK
 f20:=⟨"slices.insertionSortCmpFunc[faultline/api.Gate]",by decide,Tryz.func255.trans eK⟩
 f21:=⟨"slices.heapSortCmpFunc[faultline/api.Gate]",by decide,Tryz.func256.trans eK⟩
 f22:=⟨"slices.breakPatternsCmpFunc[faultline/api.Gate]",by decide,Tryz.func257.trans eK⟩
 f23:=⟨"slices.choosePivotCmpFunc[faultline/api.Gate]",by decide,Tryz.func258.trans eK⟩
 f24:=⟨"slices.reverseRangeCmpFunc[faultline/api.Gate]",by decide,Tryz.func259.trans eK⟩
 f25:=⟨"slices.partialInsertionSortCmpFunc[faultline/api.Gate]",by decide,Tryz.func260.trans eK⟩
 f26:=⟨"slices.partitionEqualCmpFunc[faultline/api.Gate]",by decide,Tryz.func261.trans eK⟩
 f27:=⟨"slices.partitionCmpFunc[faultline/api.Gate]",by decide,Tryz.func262.trans eK⟩
 f28:=Tryz.func164.trans eK
 f29:=Tryz.func165.trans eK
 f46:=⟨"slices.siftDownCmpFunc[faultline/api.Gate]",by decide,Tryz.func309.trans eK⟩
 f47:=Tryz.func264.trans eK
 f48:=Tryz.func265.trans eK
 f49:=⟨"slices.medianAdjacentCmpFunc[faultline/api.Gate]",by decide,Tryz.func310.trans eK⟩
 f50:=⟨"slices.medianCmpFunc[faultline/api.Gate]",by decide,Tryz.func311.trans eK⟩
 f57:=⟨"slices.order2CmpFunc[faultline/api.Gate]",by decide,Tryz.func337.trans eK⟩
 t0:=Tryz.underlying0
 a0:=Tryz.isAgg0
 z0:=Tryz.sizeOf0
 v0:=Tryz.zeroValue0
 t3:=Tryz.underlying3
 a3:=Tryz.isAgg3
 z3:=Tryz.sizeOf3
 v3:=Tryz.zeroValue3
 t4:=Tryz.underlying4
 a4:=Tryz.isAgg4
 z4:=Tryz.sizeOf4
 v4:=Tryz.zeroValue4
 t5:=Tryz.underlying5
 a5:=Tryz.isAgg5
 z5:=Tryz.sizeOf5
 v5:=Tryz.zeroValue5
 t9:=Tryz.underlying9
 a9:=Tryz.isAgg9
 z9:=Tryz.sizeOf9
 v9:=Tryz.zeroValue9
 t22:=Tryz.underlying24
 a22:=Tryz.isAgg24
 z22:=Tryz.sizeOf24
 v22:=Tryz.zeroValue24
 t25:=Tryz.underlying163
 a25:=Tryz.isAgg163
 z25:=Tryz.sizeOf163
 v25:=Tryz.zeroValue163
 t39:=Tryz.underlying166
 a39:=Tryz.isAgg166
 z39:=Tryz.sizeOf166
 v39:=Tryz.zeroValue166
 t45:=Tryz.underlying216
 a45:=Tryz.isAgg216
 z45:=Tryz.sizeOf216
 v45:=Tryz.zeroValue216
 t46:=Tryz.underlying217
 a46:=Tryz.isAgg217
 z46:=Tryz.sizeOf217
 v46:=Tryz.zeroValue217
 t50:=Tryz.underlying221
 a50:=Tryz.isAgg221
 z50:=Tryz.sizeOf221
 v50:=Tryz.zeroValue221
 t53:=Tryz.underlying168
 a53:=Tryz.isAgg168
 z53:=Tryz.sizeOf168
 v53:=Tryz.zeroValue168
 t55:=Tryz.underlying39
 a55:=Tryz.isAgg39
 z55:=Tryz.sizeOf39
 v55:=Tryz.zeroValue39
 t66:=Tryz.underlying284
 a66:=Tryz.isAgg284
 z66:=Tryz.sizeOf284
 v66:=Tryz.zeroValue284
 t70:=Tryz.underlying288
 a70:=Tryz.isAgg288
 z70:=Tryz.sizeOf288
 v70:=Tryz.zeroValue288
 t76:=Tryz.underlying323
 a76:=Tryz.isAgg323
 z76:=Tryz.sizeOf323
 v76:=Tryz.zeroValue323
 t77:=Tryz.underlying176
 a77:=Tryz.isAgg176
 z77:=Tryz.sizeOf176
 v77:=Tryz.zeroValue176
def sortEvRen:Go.Shelf.Ren:=⟨fun|6=>46|15=>99|14=>102|28=>164|29=>165|20=>167|21=>168|22=>169|23=>170|24=>171|25=>172|26=>173|27=>174|46=>268|47=>264|48=>265|49=>269|50=>270|57=>313|n=>n,fun|22=>22|24=>54|25=>112|3=>3|39=>166|0=>0|53=>168|55=>39|4=>4|46=>217|45=>216|50=>221|5=>5|9=>9|66=>284|70=>288|76=>323|77=>176|n=>n,fun n=>n⟩
theorem sortEvL:SlLaysF0.n6 Tryz.prog sortEvRen where
 mixed:=by kernel_rfl
 f6:=⟨"slices.SortFunc[[]faultline/api.Event,faultline/api.Event]",by decide,Tryz.func46.trans eK⟩
 f14:=⟨"slices.pdqsortCmpFunc[faultline/api.Event]",by decide,Tryz.func102.trans eK⟩
 f15:=Tryz.func99.trans eK
 f20:=⟨"slices.insertionSortCmpFunc[faultline/api.Event]",by decide,Tryz.func167.trans eK⟩
 f21:=⟨"slices.heapSortCmpFunc[faultline/api.Event]",by decide,Tryz.func168.trans eK⟩
 f22:=⟨"slices.breakPatternsCmpFunc[faultline/api.Event]",by decide,Tryz.func169.trans eK⟩
 f23:=⟨"slices.choosePivotCmpFunc[faultline/api.Event]",by decide,Tryz.func170.trans eK⟩
 f24:=⟨"slices.reverseRangeCmpFunc[faultline/api.Event]",by decide,Tryz.func171.trans eK⟩
 f25:=⟨"slices.partialInsertionSortCmpFunc[faultline/api.Event]",by decide,Tryz.func172.trans eK⟩
 f26:=⟨"slices.partitionEqualCmpFunc[faultline/api.Event]",by decide,Tryz.func173.trans eK⟩
 f27:=⟨"slices.partitionCmpFunc[faultline/api.Event]",by decide,Tryz.func174.trans eK⟩
 f28:=Tryz.func164.trans eK
 f29:=Tryz.func165.trans eK
 f46:=⟨"slices.siftDownCmpFunc[faultline/api.Event]",by decide,Tryz.func268.trans eK⟩
 f47:=Tryz.func264.trans eK
 f48:=Tryz.func265.trans eK
 f49:=⟨"slices.medianAdjacentCmpFunc[faultline/api.Event]",by decide,Tryz.func269.trans eK⟩
 f50:=⟨"slices.medianCmpFunc[faultline/api.Event]",by decide,Tryz.func270.trans eK⟩
 f57:=⟨"slices.order2CmpFunc[faultline/api.Event]",by decide,Tryz.func313.trans eK⟩
 t0:=Tryz.underlying0
 a0:=Tryz.isAgg0
 z0:=Tryz.sizeOf0
 v0:=Tryz.zeroValue0
 t3:=Tryz.underlying3
 a3:=Tryz.isAgg3
 z3:=Tryz.sizeOf3
 v3:=Tryz.zeroValue3
 t4:=Tryz.underlying4
 a4:=Tryz.isAgg4
 z4:=Tryz.sizeOf4
 v4:=Tryz.zeroValue4
 t5:=Tryz.underlying5
 a5:=Tryz.isAgg5
 z5:=Tryz.sizeOf5
 v5:=Tryz.zeroValue5
 t9:=Tryz.underlying9
 a9:=Tryz.isAgg9
 z9:=Tryz.sizeOf9
 v9:=Tryz.zeroValue9
 t22:=Tryz.underlying22
 a22:=Tryz.isAgg22
 z22:=Tryz.sizeOf22
 v22:=Tryz.zeroValue22
 t25:=Tryz.underlying112
 a25:=Tryz.isAgg112
 z25:=Tryz.sizeOf112
 v25:=Tryz.zeroValue112
 t39:=Tryz.underlying166
 a39:=Tryz.isAgg166
 z39:=Tryz.sizeOf166
 v39:=Tryz.zeroValue166
 t45:=Tryz.underlying216
 a45:=Tryz.isAgg216
 z45:=Tryz.sizeOf216
 v45:=Tryz.zeroValue216
 t46:=Tryz.underlying217
 a46:=Tryz.isAgg217
 z46:=Tryz.sizeOf217
 v46:=Tryz.zeroValue217
 t50:=Tryz.underlying221
 a50:=Tryz.isAgg221
 z50:=Tryz.sizeOf221
 v50:=Tryz.zeroValue221
 t53:=Tryz.underlying168
 a53:=Tryz.isAgg168
 z53:=Tryz.sizeOf168
 v53:=Tryz.zeroValue168
 t55:=Tryz.underlying39
 a55:=Tryz.isAgg39
 z55:=Tryz.sizeOf39
 v55:=Tryz.zeroValue39
 t66:=Tryz.underlying284
 a66:=Tryz.isAgg284
 z66:=Tryz.sizeOf284
 v66:=Tryz.zeroValue284
 t70:=Tryz.underlying288
 a70:=Tryz.isAgg288
 z70:=Tryz.sizeOf288
 v70:=Tryz.zeroValue288
 t76:=Tryz.underlying323
 a76:=Tryz.isAgg323
 z76:=Tryz.sizeOf323
 v76:=Tryz.zeroValue323
 t77:=Tryz.underlying176
 a77:=Tryz.isAgg176
 z77:=Tryz.sizeOf176
 v77:=Tryz.zeroValue176
def sortPgRen:Go.Shelf.Ren:=⟨fun|6=>48|15=>99|14=>103|28=>164|29=>165|20=>175|21=>176|22=>177|23=>178|24=>179|25=>180|26=>181|27=>182|46=>271|47=>264|48=>265|49=>272|50=>273|57=>314|n=>n,fun|22=>25|24=>91|25=>114|3=>3|39=>166|0=>0|53=>168|55=>39|4=>4|46=>217|45=>216|50=>221|5=>5|9=>9|66=>284|70=>288|76=>323|77=>176|n=>n,fun n=>n⟩
theorem sortPgL:SlLaysF0.n6 Tryz.prog sortPgRen where
 mixed:=by kernel_rfl
 f6:=⟨"slices.SortFunc[[]faultline/api.Page,faultline/api.Page]",by decide,Tryz.func48.trans eK⟩
 f14:=⟨"slices.pdqsortCmpFunc[faultline/api.Page]",by decide,Tryz.func103.trans eK⟩
 f15:=Tryz.func99.trans eK
 f20:=⟨"slices.insertionSortCmpFunc[faultline/api.Page]",by decide,Tryz.func175.trans eK⟩
 f21:=⟨"slices.heapSortCmpFunc[faultline/api.Page]",by decide,Tryz.func176.trans eK⟩
 f22:=⟨"slices.breakPatternsCmpFunc[faultline/api.Page]",by decide,Tryz.func177.trans eK⟩
 f23:=⟨"slices.choosePivotCmpFunc[faultline/api.Page]",by decide,Tryz.func178.trans eK⟩
 f24:=⟨"slices.reverseRangeCmpFunc[faultline/api.Page]",by decide,Tryz.func179.trans eK⟩
 f25:=⟨"slices.partialInsertionSortCmpFunc[faultline/api.Page]",by decide,Tryz.func180.trans eK⟩
 f26:=⟨"slices.partitionEqualCmpFunc[faultline/api.Page]",by decide,Tryz.func181.trans eK⟩
 f27:=⟨"slices.partitionCmpFunc[faultline/api.Page]",by decide,Tryz.func182.trans eK⟩
 f28:=Tryz.func164.trans eK
 f29:=Tryz.func165.trans eK
 f46:=⟨"slices.siftDownCmpFunc[faultline/api.Page]",by decide,Tryz.func271.trans eK⟩
 f47:=Tryz.func264.trans eK
 f48:=Tryz.func265.trans eK
 f49:=⟨"slices.medianAdjacentCmpFunc[faultline/api.Page]",by decide,Tryz.func272.trans eK⟩
 f50:=⟨"slices.medianCmpFunc[faultline/api.Page]",by decide,Tryz.func273.trans eK⟩
 f57:=⟨"slices.order2CmpFunc[faultline/api.Page]",by decide,Tryz.func314.trans eK⟩
 t0:=Tryz.underlying0
 a0:=Tryz.isAgg0
 z0:=Tryz.sizeOf0
 v0:=Tryz.zeroValue0
 t3:=Tryz.underlying3
 a3:=Tryz.isAgg3
 z3:=Tryz.sizeOf3
 v3:=Tryz.zeroValue3
 t4:=Tryz.underlying4
 a4:=Tryz.isAgg4
 z4:=Tryz.sizeOf4
 v4:=Tryz.zeroValue4
 t5:=Tryz.underlying5
 a5:=Tryz.isAgg5
 z5:=Tryz.sizeOf5
 v5:=Tryz.zeroValue5
 t9:=Tryz.underlying9
 a9:=Tryz.isAgg9
 z9:=Tryz.sizeOf9
 v9:=Tryz.zeroValue9
 t22:=Tryz.underlying25
 a22:=Tryz.isAgg25
 z22:=Tryz.sizeOf25
 v22:=Tryz.zeroValue25
 t25:=Tryz.underlying114
 a25:=Tryz.isAgg114
 z25:=Tryz.sizeOf114
 v25:=Tryz.zeroValue114
 t39:=Tryz.underlying166
 a39:=Tryz.isAgg166
 z39:=Tryz.sizeOf166
 v39:=Tryz.zeroValue166
 t45:=Tryz.underlying216
 a45:=Tryz.isAgg216
 z45:=Tryz.sizeOf216
 v45:=Tryz.zeroValue216
 t46:=Tryz.underlying217
 a46:=Tryz.isAgg217
 z46:=Tryz.sizeOf217
 v46:=Tryz.zeroValue217
 t50:=Tryz.underlying221
 a50:=Tryz.isAgg221
 z50:=Tryz.sizeOf221
 v50:=Tryz.zeroValue221
 t53:=Tryz.underlying168
 a53:=Tryz.isAgg168
 z53:=Tryz.sizeOf168
 v53:=Tryz.zeroValue168
 t55:=Tryz.underlying39
 a55:=Tryz.isAgg39
 z55:=Tryz.sizeOf39
 v55:=Tryz.zeroValue39
 t66:=Tryz.underlying284
 a66:=Tryz.isAgg284
 z66:=Tryz.sizeOf284
 v66:=Tryz.zeroValue284
 t70:=Tryz.underlying288
 a70:=Tryz.isAgg288
 z70:=Tryz.sizeOf288
 v70:=Tryz.zeroValue288
 t76:=Tryz.underlying323
 a76:=Tryz.isAgg323
 z76:=Tryz.sizeOf323
 v76:=Tryz.zeroValue323
 t77:=Tryz.underlying176
 a77:=Tryz.isAgg176
 z77:=Tryz.sizeOf176
 v77:=Tryz.zeroValue176
def sortGrRen:Go.Shelf.Ren:=⟨fun|6=>52|15=>99|14=>105|28=>164|29=>165|20=>192|21=>193|22=>194|23=>195|24=>196|25=>197|26=>198|27=>199|46=>278|47=>264|48=>265|49=>279|50=>280|57=>316|n=>n,fun|22=>26|24=>95|25=>118|3=>3|39=>166|0=>0|53=>168|55=>39|4=>4|46=>217|45=>216|50=>221|5=>5|9=>9|66=>284|70=>288|76=>323|77=>176|n=>n,fun n=>n⟩
theorem sortGrL:SlLaysF0.n6 Tryz.prog sortGrRen where
 mixed:=by kernel_rfl
 f6:=⟨"slices.SortFunc[[]faultline/api.Group,faultline/api.Group]",by decide,Tryz.func52.trans eK⟩
 f14:=⟨"slices.pdqsortCmpFunc[faultline/api.Group]",by decide,Tryz.func105.trans eK⟩
 f15:=Tryz.func99.trans eK
 f20:=⟨"slices.insertionSortCmpFunc[faultline/api.Group]",by decide,Tryz.func192.trans eK⟩
 f21:=⟨"slices.heapSortCmpFunc[faultline/api.Group]",by decide,Tryz.func193.trans eK⟩
 f22:=⟨"slices.breakPatternsCmpFunc[faultline/api.Group]",by decide,Tryz.func194.trans eK⟩
 f23:=⟨"slices.choosePivotCmpFunc[faultline/api.Group]",by decide,Tryz.func195.trans eK⟩
 f24:=⟨"slices.reverseRangeCmpFunc[faultline/api.Group]",by decide,Tryz.func196.trans eK⟩
 f25:=⟨"slices.partialInsertionSortCmpFunc[faultline/api.Group]",by decide,Tryz.func197.trans eK⟩
 f26:=⟨"slices.partitionEqualCmpFunc[faultline/api.Group]",by decide,Tryz.func198.trans eK⟩
 f27:=⟨"slices.partitionCmpFunc[faultline/api.Group]",by decide,Tryz.func199.trans eK⟩
 f28:=Tryz.func164.trans eK
 f29:=Tryz.func165.trans eK
 f46:=⟨"slices.siftDownCmpFunc[faultline/api.Group]",by decide,Tryz.func278.trans eK⟩
 f47:=Tryz.func264.trans eK
 f48:=Tryz.func265.trans eK
 f49:=⟨"slices.medianAdjacentCmpFunc[faultline/api.Group]",by decide,Tryz.func279.trans eK⟩
 f50:=⟨"slices.medianCmpFunc[faultline/api.Group]",by decide,Tryz.func280.trans eK⟩
 f57:=⟨"slices.order2CmpFunc[faultline/api.Group]",by decide,Tryz.func316.trans eK⟩
 t0:=Tryz.underlying0
 a0:=Tryz.isAgg0
 z0:=Tryz.sizeOf0
 v0:=Tryz.zeroValue0
 t3:=Tryz.underlying3
 a3:=Tryz.isAgg3
 z3:=Tryz.sizeOf3
 v3:=Tryz.zeroValue3
 t4:=Tryz.underlying4
 a4:=Tryz.isAgg4
 z4:=Tryz.sizeOf4
 v4:=Tryz.zeroValue4
 t5:=Tryz.underlying5
 a5:=Tryz.isAgg5
 z5:=Tryz.sizeOf5
 v5:=Tryz.zeroValue5
 t9:=Tryz.underlying9
 a9:=Tryz.isAgg9
 z9:=Tryz.sizeOf9
 v9:=Tryz.zeroValue9
 t22:=Tryz.underlying26
 a22:=Tryz.isAgg26
 z22:=Tryz.sizeOf26
 v22:=Tryz.zeroValue26
 t25:=Tryz.underlying118
 a25:=Tryz.isAgg118
 z25:=Tryz.sizeOf118
 v25:=Tryz.zeroValue118
 t39:=Tryz.underlying166
 a39:=Tryz.isAgg166
 z39:=Tryz.sizeOf166
 v39:=Tryz.zeroValue166
 t45:=Tryz.underlying216
 a45:=Tryz.isAgg216
 z45:=Tryz.sizeOf216
 v45:=Tryz.zeroValue216
 t46:=Tryz.underlying217
 a46:=Tryz.isAgg217
 z46:=Tryz.sizeOf217
 v46:=Tryz.zeroValue217
 t50:=Tryz.underlying221
 a50:=Tryz.isAgg221
 z50:=Tryz.sizeOf221
 v50:=Tryz.zeroValue221
 t53:=Tryz.underlying168
 a53:=Tryz.isAgg168
 z53:=Tryz.sizeOf168
 v53:=Tryz.zeroValue168
 t55:=Tryz.underlying39
 a55:=Tryz.isAgg39
 z55:=Tryz.sizeOf39
 v55:=Tryz.zeroValue39
 t66:=Tryz.underlying284
 a66:=Tryz.isAgg284
 z66:=Tryz.sizeOf284
 v66:=Tryz.zeroValue284
 t70:=Tryz.underlying288
 a70:=Tryz.isAgg288
 z70:=Tryz.sizeOf288
 v70:=Tryz.zeroValue288
 t76:=Tryz.underlying323
 a76:=Tryz.isAgg323
 z76:=Tryz.sizeOf323
 v76:=Tryz.zeroValue323
 t77:=Tryz.underlying176
 a77:=Tryz.isAgg176
 z77:=Tryz.sizeOf176
 v77:=Tryz.zeroValue176
def sortVlRen:Go.Shelf.Ren:=⟨fun|6=>54|15=>99|14=>106|28=>164|29=>165|20=>200|21=>201|22=>202|23=>203|24=>204|25=>205|26=>206|27=>207|46=>281|47=>264|48=>265|49=>282|50=>283|57=>317|n=>n,fun|22=>96|24=>100|25=>120|3=>3|39=>166|0=>0|53=>168|55=>39|4=>4|46=>217|45=>216|50=>221|5=>5|9=>9|66=>284|70=>288|76=>323|77=>176|n=>n,fun n=>n⟩
theorem sortVlL:SlLaysF0.n6 Tryz.prog sortVlRen where
 mixed:=by kernel_rfl
 f6:=⟨"slices.SortFunc[[]faultline/api.PhaseValue,faultline/api.PhaseValue]",by decide,Tryz.func54.trans eK⟩
 f14:=⟨"slices.pdqsortCmpFunc[faultline/api.PhaseValue]",by decide,Tryz.func106.trans eK⟩
 f15:=Tryz.func99.trans eK
 f20:=⟨"slices.insertionSortCmpFunc[faultline/api.PhaseValue]",by decide,Tryz.func200.trans eK⟩
 f21:=⟨"slices.heapSortCmpFunc[faultline/api.PhaseValue]",by decide,Tryz.func201.trans eK⟩
 f22:=⟨"slices.breakPatternsCmpFunc[faultline/api.PhaseValue]",by decide,Tryz.func202.trans eK⟩
 f23:=⟨"slices.choosePivotCmpFunc[faultline/api.PhaseValue]",by decide,Tryz.func203.trans eK⟩
 f24:=⟨"slices.reverseRangeCmpFunc[faultline/api.PhaseValue]",by decide,Tryz.func204.trans eK⟩
 f25:=⟨"slices.partialInsertionSortCmpFunc[faultline/api.PhaseValue]",by decide,Tryz.func205.trans eK⟩
 f26:=⟨"slices.partitionEqualCmpFunc[faultline/api.PhaseValue]",by decide,Tryz.func206.trans eK⟩
 f27:=⟨"slices.partitionCmpFunc[faultline/api.PhaseValue]",by decide,Tryz.func207.trans eK⟩
 f28:=Tryz.func164.trans eK
 f29:=Tryz.func165.trans eK
 f46:=⟨"slices.siftDownCmpFunc[faultline/api.PhaseValue]",by decide,Tryz.func281.trans eK⟩
 f47:=Tryz.func264.trans eK
 f48:=Tryz.func265.trans eK
 f49:=⟨"slices.medianAdjacentCmpFunc[faultline/api.PhaseValue]",by decide,Tryz.func282.trans eK⟩
 f50:=⟨"slices.medianCmpFunc[faultline/api.PhaseValue]",by decide,Tryz.func283.trans eK⟩
 f57:=⟨"slices.order2CmpFunc[faultline/api.PhaseValue]",by decide,Tryz.func317.trans eK⟩
 t0:=Tryz.underlying0
 a0:=Tryz.isAgg0
 z0:=Tryz.sizeOf0
 v0:=Tryz.zeroValue0
 t3:=Tryz.underlying3
 a3:=Tryz.isAgg3
 z3:=Tryz.sizeOf3
 v3:=Tryz.zeroValue3
 t4:=Tryz.underlying4
 a4:=Tryz.isAgg4
 z4:=Tryz.sizeOf4
 v4:=Tryz.zeroValue4
 t5:=Tryz.underlying5
 a5:=Tryz.isAgg5
 z5:=Tryz.sizeOf5
 v5:=Tryz.zeroValue5
 t9:=Tryz.underlying9
 a9:=Tryz.isAgg9
 z9:=Tryz.sizeOf9
 v9:=Tryz.zeroValue9
 t22:=Tryz.underlying96
 a22:=Tryz.isAgg96
 z22:=Tryz.sizeOf96
 v22:=Tryz.zeroValue96
 t25:=Tryz.underlying120
 a25:=Tryz.isAgg120
 z25:=Tryz.sizeOf120
 v25:=Tryz.zeroValue120
 t39:=Tryz.underlying166
 a39:=Tryz.isAgg166
 z39:=Tryz.sizeOf166
 v39:=Tryz.zeroValue166
 t45:=Tryz.underlying216
 a45:=Tryz.isAgg216
 z45:=Tryz.sizeOf216
 v45:=Tryz.zeroValue216
 t46:=Tryz.underlying217
 a46:=Tryz.isAgg217
 z46:=Tryz.sizeOf217
 v46:=Tryz.zeroValue217
 t50:=Tryz.underlying221
 a50:=Tryz.isAgg221
 z50:=Tryz.sizeOf221
 v50:=Tryz.zeroValue221
 t53:=Tryz.underlying168
 a53:=Tryz.isAgg168
 z53:=Tryz.sizeOf168
 v53:=Tryz.zeroValue168
 t55:=Tryz.underlying39
 a55:=Tryz.isAgg39
 z55:=Tryz.sizeOf39
 v55:=Tryz.zeroValue39
 t66:=Tryz.underlying284
 a66:=Tryz.isAgg284
 z66:=Tryz.sizeOf284
 v66:=Tryz.zeroValue284
 t70:=Tryz.underlying288
 a70:=Tryz.isAgg288
 z70:=Tryz.sizeOf288
 v70:=Tryz.zeroValue288
 t76:=Tryz.underlying323
 a76:=Tryz.isAgg323
 z76:=Tryz.sizeOf323
 v76:=Tryz.zeroValue323
 t77:=Tryz.underlying176
 a77:=Tryz.isAgg176
 z77:=Tryz.sizeOf176
 v77:=Tryz.zeroValue176
def sortStRen:Go.Shelf.Ren:=⟨fun|190=>51|125=>99|258=>104|128=>164|129=>165|302=>183|303=>184|304=>185|305=>186|306=>187|307=>188|308=>189|309=>190|310=>191|333=>274|329=>264|330=>265|334=>275|335=>276|336=>277|344=>315|n=>n,fun|31=>92|9=>9|3=>3|46=>166|0=>0|51=>168|53=>39|4=>4|183=>217|182=>216|131=>221|5=>5|218=>284|222=>288|228=>323|229=>176|n=>n,fun n=>n⟩
theorem sortStL:Lays.n190 Tryz.prog sortStRen where
 mixed:=by kernel_rfl
 f125:=Tryz.func99.trans eK
 f128:=Tryz.func164.trans eK
 f129:=Tryz.func165.trans eK
 f190:=Tryz.func51.trans eK
 f258:=Tryz.func104.trans eK
 f302:=Tryz.func183.trans eK
 f303:=Tryz.func184.trans eK
 f304:=Tryz.func185.trans eK
 f305:=Tryz.func186.trans eK
 f306:=Tryz.func187.trans eK
 f307:=Tryz.func188.trans eK
 f308:=Tryz.func189.trans eK
 f309:=Tryz.func190.trans eK
 f310:=Tryz.func191.trans eK
 f329:=Tryz.func264.trans eK
 f330:=Tryz.func265.trans eK
 f333:=Tryz.func274.trans eK
 f334:=Tryz.func275.trans eK
 f335:=Tryz.func276.trans eK
 f336:=Tryz.func277.trans eK
 f344:=Tryz.func315.trans eK
 t0:=Tryz.underlying0
 a0:=Tryz.isAgg0
 z0:=Tryz.sizeOf0
 v0:=Tryz.zeroValue0
 t3:=Tryz.underlying3
 a3:=Tryz.isAgg3
 z3:=Tryz.sizeOf3
 v3:=Tryz.zeroValue3
 t4:=Tryz.underlying4
 a4:=Tryz.isAgg4
 z4:=Tryz.sizeOf4
 v4:=Tryz.zeroValue4
 t5:=Tryz.underlying5
 a5:=Tryz.isAgg5
 z5:=Tryz.sizeOf5
 v5:=Tryz.zeroValue5
 t9:=Tryz.underlying9
 a9:=Tryz.isAgg9
 z9:=Tryz.sizeOf9
 v9:=Tryz.zeroValue9
 t31:=Tryz.underlying92
 a31:=Tryz.isAgg92
 z31:=Tryz.sizeOf92
 v31:=Tryz.zeroValue92
 t46:=Tryz.underlying166
 a46:=Tryz.isAgg166
 z46:=Tryz.sizeOf166
 v46:=Tryz.zeroValue166
 t51:=Tryz.underlying168
 a51:=Tryz.isAgg168
 z51:=Tryz.sizeOf168
 v51:=Tryz.zeroValue168
 t53:=Tryz.underlying39
 a53:=Tryz.isAgg39
 z53:=Tryz.sizeOf39
 v53:=Tryz.zeroValue39
 t131:=Tryz.underlying221
 a131:=Tryz.isAgg221
 z131:=Tryz.sizeOf221
 v131:=Tryz.zeroValue221
 t182:=Tryz.underlying216
 a182:=Tryz.isAgg216
 z182:=Tryz.sizeOf216
 v182:=Tryz.zeroValue216
 t183:=Tryz.underlying217
 a183:=Tryz.isAgg217
 z183:=Tryz.sizeOf217
 v183:=Tryz.zeroValue217
 t218:=Tryz.underlying284
 a218:=Tryz.isAgg284
 z218:=Tryz.sizeOf284
 v218:=Tryz.zeroValue284
 t222:=Tryz.underlying288
 a222:=Tryz.isAgg288
 z222:=Tryz.sizeOf288
 v222:=Tryz.zeroValue288
 t228:=Tryz.underlying323
 a228:=Tryz.isAgg323
 z228:=Tryz.sizeOf323
 v228:=Tryz.zeroValue323
 t229:=Tryz.underlying176
 a229:=Tryz.isAgg176
 z229:=Tryz.sizeOf176
 v229:=Tryz.zeroValue176
end Go.Proofs.YtpcpaekpnfkhhaaGreatDoor
namespace Go.AI
section
variable {P : Program} {h : Heap} {ρ : Operand → AV}
theorem POk.cmpExt {f:FuncId} {fn:Func} {x y:Operand} {ts:Array TypeId} {a b:ByteArray} (hf:P.funcs[f]?=some fn) (hname:(fn.name== "runtime.NumGoroutine")=false) (hb:fn.body.isNone=true) (hn:Extern.findNext fn=none) (he:Extern.find fn=some Extern.BytealgCompare.compare) (hk:ρ (.func f)=.c (.raw (.func (.func f) #[] #[]))) (hx:ρ x=.c (.str a)) (hy:ρ y=.c (.str b)):
  POk P h ρ (.call {callee:=.value (.func f),args:= #[x,y],argTypes:=ts}) (.c (.int .i64 (Lib.compareBytes a.data.toList b.data.toList))):=fun S w e _ ho _=>by
 have h1:=ho x (by simp [Op.operands,Call.operands])
 rw [hx] at h1
 have h1:e x=.string a:=h1
 have h2:=ho y (by simp [Op.operands,Call.operands])
 rw [hy] at h2
 have h2:e y=.string b:=h2
 refine⟨.int .i64 (Lib.compareBytes a.data.toList b.data.toList),fun o hop=> ?_,rfl⟩
 have:=run_callFunc_extern (P:=P) hf hname hb hn he #[e x,e y] w
 rw [h1,h2,Lib.run_compareString] at this
 have h3:=ho (.func f) (by simp [Op.operands,Call.operands])
 rw [hk] at h3
 have h3':e (.func f)=.func (.func f) #[] #[]:=h3
 simp [execOp,hop,resolve,invoke,h3',h1,h2,Deferred.ofValue,this,Result.andThen]
end
end Go.AI
namespace Go.PN
open Go.AI
abbrev kDigs:BS:=[48,49,50,51,52,53,54,55,56,57,97,98,99,100,101,102,103,104,105,106,107,108,109,110,111,112,113,114,115,116,117,118,119,120,121,122]
abbrev kTens:BS:=[48,48,48,49,48,50,48,51,48,52,48,53,48,54,48,55,48,56,48,57,49,48,49,49,49,50,49,51,49,52,49,53,49,54,49,55,49,56,49,57,50,48,50,49,50,50,50,51,50,52,50,53,50,54,50,55,50,56,50,57,51,48,51,49,51,50,51,51,51,52,51,53,51,54,51,55,51,56,51,57,52,48,52,49,52,50,52,51,52,52,52,53,52,54,52,55,52,56,52,57,53,48,53,49,53,50,53,51,53,52,53,53,53,54,53,55,53,56,53,57,54,48,54,49,54,50,54,51,54,52,54,53,54,54,54,55,54,56,54,57,55,48,55,49,55,50,55,51,55,52,55,53,55,54,55,55,55,56,55,57,56,48,56,49,56,50,56,51,56,52,56,53,56,54,56,55,56,56,56,57,57,48,57,49,57,50,57,51,57,52,57,53,57,54,57,55,57,56,57,57]
theorem tens_cut:∀n:Nat,n<100→cutS kTens (n*2) (n*2+2)=[UInt8.ofNat (48+n/10),UInt8.ofNat (48+n%10)]:=by decide
theorem digs_cut:∀n:Nat,n<10→cutS kDigs n (n+1)=[UInt8.ofNat (48+n)]:=by decide
theorem sel_solid {k:Nat} (x:SEl k):(CV.str (sB x.nm)::x.vs.map CV.raw).all CV.solid=true:=by
 rw [List.all_cons,List.all_map]
 refine Bool.and_eq_true_iff.2 ⟨rfl,List.all_eq_true.2 fun v hv=>x.one v hv⟩
end Go.PN
namespace Go.Proofs.YtpcpaekpnfkhhaaGreatDoor
open Go.AI Go.PN
attribute [local irreducible] aw Fa Fh DrK
theorem bcompare_fa (a b:BS):Fa Tryz.prog 100 [.c (.str (sB a)),.c (.str (sB b))] (.c (.int .i64 (Lib.compareBytes a b))):=by
 refine fa_of_body Tryz.func100 rfl rfl (by simp [Tryz.ntmps100]) fun C hC=> ?_
 simp only [initS,Nat.reduceAdd]
 repeat' first|refine zV o0 ?_|refine zH o0 (fun hb=>?_) fun hb=>?_|fail
 refine aw_pok (POk.cmpExt Tryz.func166 rfl rfl rfl rfl rfl eE eE) rfl rfl ?_
 refine xS ?_
 repeat' first|refine zV o0 ?_|refine zH o0 (fun hb=>?_) fun hb=>?_|fail
 refine xT hC ?_
 exact .one (.c (.int _ _))
theorem scompare_fa (a b:BS):Fa Tryz.prog 44 [.c (.str (sB a)),.c (.str (sB b))] (.c (.int .i64 (Lib.compareBytes a b))):=by
 have f1:=bcompare_fa a b
 refine fa_of_body Tryz.func44 rfl rfl (by simp [Tryz.ntmps44]) fun C hC=> ?_
 simp only [initS,Nat.reduceAdd]
 repeat' first|refine zV o0 ?_|(refine yC2 o0 (f1) ?_)|(refine yD2 o0 (f1) ?_)|refine zH o0 (fun hb=>?_) fun hb=>?_|fail
 refine xT hC ?_
 exact .one (.c (.int _ _))
theorem cmpHs:CmpNm Tryz.prog 43 2:=fun x y=>by
 have f1:=scompare_fa x.nm y.nm
 refine fa_of_body Tryz.func43 rfl rfl (by simp [Tryz.ntmps43]) fun C hC=> ?_
 simp only [initS,Nat.reduceAdd]
 repeat' first|refine zV o0 ?_|refine zH o0 (fun hb=>?_) fun hb=>?_|fail
 refine aw_box (v:=.agg (.str (sB x.nm)::x.vs.map .raw)) rfl rfl rfl eE (fun _ e=>by cases e) (by exact sel_solid x) fun g1 hn_g1=> ?_
 refine xS ?_
 refine aw_box (v:=.agg (.str (sB y.nm)::y.vs.map .raw)) rfl rfl rfl eE (fun _ e=>by cases e) (by exact sel_solid y) fun g2 hn_g2=> ?_
 replace hn_g2:=Heap.ne_of hn_g2
 dsimp only [Heap.ne] at hn_g2
 refine yS hn_g2 ?_
 repeat' first|refine zV hn_g2 ?_|(refine yC2 hn_g2 (f1) ?_)|(refine yD2 hn_g2 (f1) ?_)|refine zH hn_g2 (fun hb=>?_) fun hb=>?_|fail
 refine yT hC hn_g2 ?_
 exact .one (.c (.int _ _))
theorem cmpEv:CmpNm Tryz.prog 47 11:=fun x y=>by
 have f1:=scompare_fa x.nm y.nm
 refine fa_of_body Tryz.func47 rfl rfl (by simp [Tryz.ntmps47]) fun C hC=> ?_
 simp only [initS,Nat.reduceAdd]
 repeat' first|refine zV o0 ?_|refine zH o0 (fun hb=>?_) fun hb=>?_|fail
 refine aw_box (v:=.agg (.str (sB x.nm)::x.vs.map .raw)) rfl rfl rfl eE (fun _ e=>by cases e) (by exact sel_solid x) fun g1 hn_g1=> ?_
 refine xS ?_
 refine aw_box (v:=.agg (.str (sB y.nm)::y.vs.map .raw)) rfl rfl rfl eE (fun _ e=>by cases e) (by exact sel_solid y) fun g2 hn_g2=> ?_
 replace hn_g2:=Heap.ne_of hn_g2
 dsimp only [Heap.ne] at hn_g2
 refine yS hn_g2 ?_
 repeat' first|refine zV hn_g2 ?_|(refine yC2 hn_g2 (f1) ?_)|(refine yD2 hn_g2 (f1) ?_)|refine zH hn_g2 (fun hb=>?_) fun hb=>?_|fail
 refine yT hC hn_g2 ?_
 exact .one (.c (.int _ _))
theorem cmpPg:CmpNm Tryz.prog 49 3:=fun x y=>by
 have f1:=scompare_fa x.nm y.nm
 refine fa_of_body Tryz.func49 rfl rfl (by simp [Tryz.ntmps49]) fun C hC=> ?_
 simp only [initS,Nat.reduceAdd]
 repeat' first|refine zV o0 ?_|refine zH o0 (fun hb=>?_) fun hb=>?_|fail
 refine aw_box (v:=.agg (.str (sB x.nm)::x.vs.map .raw)) rfl rfl rfl eE (fun _ e=>by cases e) (by exact sel_solid x) fun g1 hn_g1=> ?_
 refine xS ?_
 refine aw_box (v:=.agg (.str (sB y.nm)::y.vs.map .raw)) rfl rfl rfl eE (fun _ e=>by cases e) (by exact sel_solid y) fun g2 hn_g2=> ?_
 replace hn_g2:=Heap.ne_of hn_g2
 dsimp only [Heap.ne] at hn_g2
 refine yS hn_g2 ?_
 repeat' first|refine zV hn_g2 ?_|(refine yC2 hn_g2 (f1) ?_)|(refine yD2 hn_g2 (f1) ?_)|refine zH hn_g2 (fun hb=>?_) fun hb=>?_|fail
 refine yT hC hn_g2 ?_
 exact .one (.c (.int _ _))
theorem cmpGr:CmpNm Tryz.prog 53 4:=fun x y=>by
 have f1:=scompare_fa x.nm y.nm
 refine fa_of_body Tryz.func53 rfl rfl (by simp [Tryz.ntmps53]) fun C hC=> ?_
 simp only [initS,Nat.reduceAdd]
 repeat' first|refine zV o0 ?_|refine zH o0 (fun hb=>?_) fun hb=>?_|fail
 refine aw_box (v:=.agg (.str (sB x.nm)::x.vs.map .raw)) rfl rfl rfl eE (fun _ e=>by cases e) (by exact sel_solid x) fun g1 hn_g1=> ?_
 refine xS ?_
 refine aw_box (v:=.agg (.str (sB y.nm)::y.vs.map .raw)) rfl rfl rfl eE (fun _ e=>by cases e) (by exact sel_solid y) fun g2 hn_g2=> ?_
 replace hn_g2:=Heap.ne_of hn_g2
 dsimp only [Heap.ne] at hn_g2
 refine yS hn_g2 ?_
 repeat' first|refine zV hn_g2 ?_|(refine yC2 hn_g2 (f1) ?_)|(refine yD2 hn_g2 (f1) ?_)|refine zH hn_g2 (fun hb=>?_) fun hb=>?_|fail
 refine yT hC hn_g2 ?_
 exact .one (.c (.int _ _))
theorem cmpVl:CmpNm Tryz.prog 55 4:=fun x y=>by
 have f1:=scompare_fa x.nm y.nm
 refine fa_of_body Tryz.func55 rfl rfl (by simp [Tryz.ntmps55]) fun C hC=> ?_
 simp only [initS,Nat.reduceAdd]
 repeat' first|refine zV o0 ?_|refine zH o0 (fun hb=>?_) fun hb=>?_|fail
 refine aw_box (v:=.agg (.str (sB x.nm)::x.vs.map .raw)) rfl rfl rfl eE (fun _ e=>by cases e) (by exact sel_solid x) fun g1 hn_g1=> ?_
 refine xS ?_
 refine aw_box (v:=.agg (.str (sB y.nm)::y.vs.map .raw)) rfl rfl rfl eE (fun _ e=>by cases e) (by exact sel_solid y) fun g2 hn_g2=> ?_
 replace hn_g2:=Heap.ne_of hn_g2
 dsimp only [Heap.ne] at hn_g2
 refine yS hn_g2 ?_
 repeat' first|refine zV hn_g2 ?_|(refine yC2 hn_g2 (f1) ?_)|(refine yD2 hn_g2 (f1) ?_)|refine zH hn_g2 (fun hb=>?_) fun hb=>?_|fail
 refine yT hC hn_g2 ?_
 exact .one (.c (.int _ _))
theorem cmpGt:CmpNm Tryz.prog 97 7:=fun x y=>by
 have f1:=scompare_fa x.nm y.nm
 refine fa_of_body Tryz.func97 rfl rfl (by simp [Tryz.ntmps97]) fun C hC=> ?_
 simp only [initS,Nat.reduceAdd]
 repeat' first|refine zV o0 ?_|refine zH o0 (fun hb=>?_) fun hb=>?_|fail
 refine aw_box (v:=.agg (.str (sB x.nm)::x.vs.map .raw)) rfl rfl rfl eE (fun _ e=>by cases e) (by exact sel_solid x) fun g1 hn_g1=> ?_
 refine xS ?_
 refine aw_box (v:=.agg (.str (sB y.nm)::y.vs.map .raw)) rfl rfl rfl eE (fun _ e=>by cases e) (by exact sel_solid y) fun g2 hn_g2=> ?_
 replace hn_g2:=Heap.ne_of hn_g2
 dsimp only [Heap.ne] at hn_g2
 refine yS hn_g2 ?_
 repeat' first|refine zV hn_g2 ?_|(refine yC2 hn_g2 (f1) ?_)|(refine yD2 hn_g2 (f1) ?_)|refine zH hn_g2 (fun hb=>?_) fun hb=>?_|fail
 refine yT hC hn_g2 ?_
 exact .one (.c (.int _ _))
theorem small_s_fa (n:Nat) (h:n<100):Fa Tryz.prog 333 [.c (.int .i64 n)] (.c (.str (sB (decB n)))):=by
 by_cases h1:n<10
 ·have d1:decide (n<10)=true:=decide_eq_true h1
  rw [decB_lt h1,←digs_cut n h1]
  refine fa_of_body Tryz.func333 rfl rfl (by simp [Tryz.ntmps333]) fun C hC=> ?_
  simp only [initS,Nat.reduceAdd]
  repeat' first|refine zV d1 ?_|refine zH d1 (fun hb=>?_) fun hb=>?_|fail
  refine yT hC d1 ?_
  exact .one (.c (.str _))
 ·have d1:decide (n<10)=false:=decide_eq_false h1
  have e:∀l:BS,l=kTens→LeRA [] (AV.c (.str ⟨(cutS l (n*2) (n*2+2)).toArray⟩)) (.c (.str (sB (decB n)))):=by
   rintro _ rfl
   rw [tens_cut n h,decB_ge om,decB_lt om]
   exact .one (.c (.str _))
  have e2:∀a:ByteArray,a=⟨kTens.toArray⟩→((n*2+2:Nat):Int)≤(a.size:Int):=by
   rintro _ rfl
   show _≤((kTens.length:Nat):Int)
   rw [show kTens.length=200 from rfl];omega
  refine fa_of_body Tryz.func333 rfl rfl (by simp [Tryz.ntmps333]) fun C hC=> ?_
  simp only [initS,Nat.reduceAdd]
  repeat' first|refine zV d1 ?_|refine zH d1 (fun hb=>?_) fun hb=>?_|fail
  refine aw_pok (POk.sliceA (i:=((n*2:Nat):Int)) (j:=((n*2+2:Nat):Int)) (by kernel_rfl) rfl ⟨_,(zE d1)⟩ ⟨_,(zE d1)⟩ om om (e2 _ (by kernel_rfl))) rfl rfl ?_
  refine yS d1 ?_
  repeat' first|refine zV d1 ?_|refine zH d1 (fun hb=>?_) fun hb=>?_|fail
  refine yT hC d1 ?_
  exact e _ (by kernel_rfl)
theorem format_fa (n:Nat) (h:n<100):Fa Tryz.prog 303 [.c (.int .i64 n),.c (.int .i64 10)] (.c (.str (sB (decB n)))):=by
 have f1:=small_s_fa n h
 have d1:decide (n<100)=true:=decide_eq_true h
 have d0:decide (n≥0)=true:=decide_eq_true (Nat.zero_le n)
 refine fa_of_body Tryz.func303 rfl rfl (by simp [Tryz.ntmps303]) fun C hC=> ?_
 simp only [initS,Nat.reduceAdd]
 all_goals try(have Z:=(oj d1 d0);(repeat' first|refine zV Z ?_|(refine yC2 Z (f1) ?_)|(refine yD2 Z (f1) ?_)|refine zH Z (fun hb=>?_) fun hb=>?_|fail);all_goals clear Z)
 refine yT hC (oj d1 d0) ?_
 exact .one (.c (.str _))
theorem itoa0_fa (n:Nat) (h:n<100):Fa Tryz.prog 234 [.c (.int .i64 n)] (.c (.str (sB (decB n)))):=by
 have f1:=format_fa n h
 refine fa_of_body Tryz.func234 rfl rfl (by simp [Tryz.ntmps234]) fun C hC=> ?_
 simp only [initS,Nat.reduceAdd]
 repeat' first|refine zV o0 ?_|(refine yC2 o0 (f1) ?_)|(refine yD2 o0 (f1) ?_)|refine zH o0 (fun hb=>?_) fun hb=>?_|fail
 refine xT hC ?_
 exact .one (.c (.str _))
theorem itoa_fa (n:Nat) (h:n<100):Fa Tryz.prog 128 [.c (.int .i64 n)] (.c (.str (sB (decB n)))):=by
 have f1:=itoa0_fa n h
 refine fa_of_body Tryz.func128 rfl rfl (by simp [Tryz.ntmps128]) fun C hC=> ?_
 simp only [initS,Nat.reduceAdd]
 repeat' first|refine zV o0 ?_|(refine yC2 o0 (f1) ?_)|(refine yD2 o0 (f1) ?_)|refine zH o0 (fun hb=>?_) fun hb=>?_|fail
 refine xT hC ?_
 exact .one (.c (.str _))
theorem srtHs_fh (og:Option Nat) (xs:List HsD) (hog:og=none→xs.length=0) (hn:(xs.map HsD.name).Nodup) (hl:xs.length≤1099511627776):
  Fh Tryz.prog 42 (gh og 105 (xs.length*2) (hssF xs)) [.c (gs og 2 xs.length),.c (.raw (.func (.func 43) #[] #[]))] (fun x h=>x=.tup []∧h=gh og 105 (xs.length*2) (hssF (sortK HsD.name xs))):=by
 cases og with
 |none=>
  have h0:xs=[]:=List.length_eq_zero_iff.1 (hog rfl)
  subst h0
  exact sortZHs_fh _
 |some g=>
  refine(sortK_fh sortHsL (k:=2) (by decide) (fun w=>Tryz.isAgg105 w) (fun w=>Tryz.sizeOf105 w) (fs:=42) rfl ⟨_,Tryz.func42,rfl,rfl⟩ cmpHs 105 hsc hs0 HsD.name (fun x=>⟨_,rfl,rfl,rfl⟩) xs om g).mono ?_
  rintro _ _ ⟨rfl,ys,h1,h2,rfl⟩
  rw [sort_uniq h1 h2 hn]
  exact⟨rfl,rfl⟩
theorem srtEv_fh (og:Option Nat) (xs:List EvD) (hog:og=none→xs.length=0) (hn:(xs.map EvD.name).Nodup) (hl:xs.length≤1099511627776):
  Fh Tryz.prog 46 (gh og 54 (xs.length*11) (evsF xs)) [.c (gs og 11 xs.length),.c (.raw (.func (.func 47) #[] #[]))] (fun x h=>x=.tup []∧h=gh og 54 (xs.length*11) (evsF (sortK EvD.name xs))):=by
 cases og with
 |none=>
  have h0:xs=[]:=List.length_eq_zero_iff.1 (hog rfl)
  subst h0
  exact sortZEv_fh _
 |some g=>
  refine(sortK_fh sortEvL (k:=11) (by decide) (fun w=>Tryz.isAgg54 w) (fun w=>Tryz.sizeOf54 w) (fs:=46) rfl ⟨_,Tryz.func46,rfl,rfl⟩ cmpEv 54 evc ev0 EvD.name (fun x=>⟨_,rfl,rfl,rfl⟩) xs om g).mono ?_
  rintro _ _ ⟨rfl,ys,h1,h2,rfl⟩
  rw [sort_uniq h1 h2 hn]
  exact⟨rfl,rfl⟩
theorem srtPg_fh (og:Option Nat) (xs:List PgD) (hog:og=none→xs.length=0) (hn:(xs.map PgD.name).Nodup) (hl:xs.length≤1099511627776):
  Fh Tryz.prog 48 (gh og 91 (xs.length*3) (pgsF xs)) [.c (gs og 3 xs.length),.c (.raw (.func (.func 49) #[] #[]))] (fun x h=>x=.tup []∧h=gh og 91 (xs.length*3) (pgsF (sortK PgD.name xs))):=by
 cases og with
 |none=>
  have h0:xs=[]:=List.length_eq_zero_iff.1 (hog rfl)
  subst h0
  exact sortZPg_fh _
 |some g=>
  refine(sortK_fh sortPgL (k:=3) (by decide) (fun w=>Tryz.isAgg91 w) (fun w=>Tryz.sizeOf91 w) (fs:=48) rfl ⟨_,Tryz.func48,rfl,rfl⟩ cmpPg 91 pgc pg0 PgD.name (fun x=>⟨_,rfl,rfl,rfl⟩) xs om g).mono ?_
  rintro _ _ ⟨rfl,ys,h1,h2,rfl⟩
  rw [sort_uniq h1 h2 hn]
  exact⟨rfl,rfl⟩
theorem srtGr_fh (og:Option Nat) (xs:List GrD) (hog:og=none→xs.length=0) (hn:(xs.map GrD.name).Nodup) (hl:xs.length≤1099511627776):
  Fh Tryz.prog 52 (gh og 95 (xs.length*4) (grsF xs)) [.c (gs og 4 xs.length),.c (.raw (.func (.func 53) #[] #[]))] (fun x h=>x=.tup []∧h=gh og 95 (xs.length*4) (grsF (sortK GrD.name xs))):=by
 cases og with
 |none=>
  have h0:xs=[]:=List.length_eq_zero_iff.1 (hog rfl)
  subst h0
  exact sortZGr_fh _
 |some g=>
  refine(sortK_fh sortGrL (k:=4) (by decide) (fun w=>Tryz.isAgg95 w) (fun w=>Tryz.sizeOf95 w) (fs:=52) rfl ⟨_,Tryz.func52,rfl,rfl⟩ cmpGr 95 grc gr0 GrD.name (fun x=>⟨_,rfl,rfl,rfl⟩) xs om g).mono ?_
  rintro _ _ ⟨rfl,ys,h1,h2,rfl⟩
  rw [sort_uniq h1 h2 hn]
  exact⟨rfl,rfl⟩
theorem srtVl_fh (og:Option Nat) (xs:List VlD) (hog:og=none→xs.length=0) (hn:(xs.map VlD.event).Nodup) (hl:xs.length≤1099511627776):
  Fh Tryz.prog 54 (gh og 100 (xs.length*4) (vlsF xs)) [.c (gs og 4 xs.length),.c (.raw (.func (.func 55) #[] #[]))] (fun x h=>x=.tup []∧h=gh og 100 (xs.length*4) (vlsF (sortK VlD.event xs))):=by
 cases og with
 |none=>
  have h0:xs=[]:=List.length_eq_zero_iff.1 (hog rfl)
  subst h0
  exact sortZVl_fh _
 |some g=>
  refine(sortK_fh sortVlL (k:=4) (by decide) (fun w=>Tryz.isAgg100 w) (fun w=>Tryz.sizeOf100 w) (fs:=54) rfl ⟨_,Tryz.func54,rfl,rfl⟩ cmpVl 100 vlc vl0 VlD.event (fun x=>⟨_,rfl,rfl,rfl⟩) xs om g).mono ?_
  rintro _ _ ⟨rfl,ys,h1,h2,rfl⟩
  rw [sort_uniq h1 h2 hn]
  exact⟨rfl,rfl⟩
theorem srtGt_fh (og:Option Nat) (xs:List GtD) (hog:og=none→xs.length=0) (hn:(xs.map GtD.name).Nodup) (hl:xs.length≤1099511627776):
  Fh Tryz.prog 96 (gh og 140 (xs.length*7) (gtsF xs)) [.c (gs og 7 xs.length),.c (.raw (.func (.func 97) #[] #[]))] (fun x h=>x=.tup []∧h=gh og 140 (xs.length*7) (gtsF (sortK GtD.name xs))):=by
 cases og with
 |none=>
  have h0:xs=[]:=List.length_eq_zero_iff.1 (hog rfl)
  subst h0
  exact sortZGt_fh _
 |some g=>
  refine(sortK_fh sortGtL (k:=7) (by decide) (fun w=>Tryz.isAgg140 w) (fun w=>Tryz.sizeOf140 w) (fs:=96) rfl ⟨_,Tryz.func96,rfl,rfl⟩ cmpGt 140 gtc gt0 GtD.name (fun x=>⟨_,rfl,rfl,rfl⟩) xs om g).mono ?_
  rintro _ _ ⟨rfl,ys,h1,h2,rfl⟩
  rw [sort_uniq h1 h2 hn]
  exact⟨rfl,rfl⟩
theorem srtSt_fh (og:Option Nat) (xs:List BS) (hog:og=none→xs.length=0) (hl:xs.length≤1099511627776):
  Fh Tryz.prog 51 (gh og 9 (xs.length*1) (strsF xs)) [.c (gs og 1 xs.length)] (fun x h=>x=.tup []∧h=gh og 9 (xs.length*1) (strsF (sortK id xs))):=by
 cases og with
 |none=>
  have h0:xs=[]:=List.length_eq_zero_iff.1 (hog rfl)
  subst h0
  exact sortZSt_fh
 |some g=>
  have:=sortStr_fh sortStL (fs:=51) rfl ⟨_,Tryz.func51,rfl,rfl⟩ 9 [] xs om g
  simp only [List.length_nil,Nat.zero_add,List.nil_append] at this
  rw [Nat.mul_one]
  exact this
theorem srtSt1_fh (g:Nat) (x:BS) (xs:List BS) (hl:xs.length≤1099511627776):
  Fh Tryz.prog 51 [(g,.cells 9 (1+xs.length) (strsF (x::xs)))] [.c (.osl g 1 1 xs.length)] (fun r h=>r=.tup []∧h=[(g,.cells 9 (1+xs.length) (strsF (x::sortK id xs)))]):=
 sortStr_fh sortStL (fs:=51) rfl ⟨_,Tryz.func51,rfl,rfl⟩ 9 [x] xs om g
theorem cloneW_fa (xs:List Nat) (hl:xs.length≤1099511627776):Fa Tryz.prog 101 [.c (ws false xs)] (.c (ws true xs)):=by
 refine fa_of_body Tryz.func101 rfl rfl (by simp [Tryz.ntmps101]) fun C hC=> ?_
 simp only [initS,Nat.reduceAdd]
 refine xG ?_
 refine aw_eqnil (e:=168) rfl rfl rfl (by kernel_rfl) eE om fun b hb=> ?_
 refine xSG ?_
 refine xF (fun h1=>?_) fun h1=>?_
 ·have h0:xs=[]:=List.length_eq_zero_iff.1 (hb h1)
  subst h0
  refine xGT hC ?_
  exact .one (.c .nils)
 ·refine xG ?_
  refine aw_buildSlice (xs:=[]) (cells:=[]) rfl rfl rfl eE (by refine xS ?_;rfl) rfl om om (by simp) rfl fun g hg=> ?_
  refine aw_conv1 (f':=wf []) (fun j hj=>absurd hj om) ?_
  refine xSG ?_
  rcases Nat.eq_zero_or_pos xs.length with h0|h0
  ·have hp:xs=[]:=List.length_eq_zero_iff.1 h0
   subst hp
   refine aw_append0 rfl rfl rfl eE eE rfl eE .row rfl ?_
   refine xSG ?_
   refine aw_frzT (t:=2) (wf []) eE eE om (hC g) (fun j _=>by rw [Nat.zero_add]) rfl eE ?_
   refine xS ?_
   refine xT hC ?_
   exact .one (.c (.row fun j _=>.int _ _))
  ·refine aw_append (size:=1) (z:=[.int .u32 0]) rfl rfl rfl ty_e_ws ty_z_u32 rfl om eE eE om eE .row (fun _ _=>rfl) h0 qc om eE fun g' hg'=> ?_
   refine xSG ?_
   refine aw_frzT (t:=2) (wf xs) eE eE om (hC g') (fun j hj=>by rw [Nat.zero_add];simp [appF,wf]) rfl eE ?_
   refine xS ?_
   refine xT hC ?_
   exact .one (.c (.row fun j _=>.int _ _))
theorem cloneS_fh (xs:List BS) (hl:xs.length≤1048576):Fh Tryz.prog 50 [] [.c (strs false xs)] (fun r h=>∃og,(og=none→xs.length=0)∧r=.c (gs og 1 xs.length)∧h=gh og 9 (xs.length*1) (strsF xs)):=by
 refine fh_of_body Tryz.func50 rfl rfl (by simp [Tryz.ntmps50]) fun C hC=> ?_
 simp only [initS,Nat.reduceAdd]
 refine xG ?_
 refine aw_eqnil (e:=9) rfl rfl rfl (by kernel_rfl) eE om fun b hb=> ?_
 refine xSG ?_
 refine xF (fun h1=>?_) fun h1=>?_
 ·have h0:=hb h1
  refine xG ?_
  refine xU ?_
  exact⟨none,fun _=>h0,by rw [h0];rfl,rfl⟩
 ·refine xG ?_
  refine aw_buildSlice (xs:=[]) (cells:=[]) rfl rfl rfl eE (by refine xS ?_;rfl) rfl om om (by simp) rfl fun g hg=> ?_
  refine aw_conv1 (f':=strsF []) (fun j hj=>absurd hj om) ?_
  refine xSG ?_
  rcases Nat.eq_zero_or_pos xs.length with h0|h0
  ·have hp:xs=[]:=List.length_eq_zero_iff.1 h0
   subst hp
   refine aw_append0 rfl rfl rfl eE eE rfl eE .row rfl ?_
   refine xSGU ?_
   exact⟨some g,fun _=>trivial,rfl,rfl⟩
  ·refine aw_append (size:=1) (z:=[.str ⟨#[]⟩]) rfl rfl rfl (by exact tya_e_92) (by exact tya_z_9) rfl om eE eE om eE .row (fun j hj=>strsF_solid xs j) h0 qc om eE fun g' hg'=> ?_
   refine xSGU ?_
   have hf:appF (strsF []) 0 (strsF xs)=strsF xs:=by funext j;simp [appF]
   rw [hf]
   exact⟨some g',(fun e=>by cases e),rfl,rfl⟩
theorem cloneH_fh (xs:List HsD) (hl:xs.length≤1048576):Fh Tryz.prog 40 [] [.c (hss false xs)] (fun r h=>∃og,(og=none→xs.length=0)∧r=.c (gs og 2 xs.length)∧h=gh og 105 (xs.length*2) (hssF xs)):=by
 refine fh_of_body Tryz.func40 rfl rfl (by simp [Tryz.ntmps40]) fun C hC=> ?_
 simp only [initS,Nat.reduceAdd]
 refine xG ?_
 refine aw_eqnil (e:=105) rfl rfl rfl (by kernel_rfl) eE om fun b hb=> ?_
 refine xSG ?_
 refine xF (fun h1=>?_) fun h1=>?_
 ·have h0:=hb h1
  refine xG ?_
  refine xU ?_
  exact⟨none,fun _=>h0,by rw [h0];rfl,rfl⟩
 ·refine xG ?_
  refine aw_buildSlice (xs:=[]) (cells:=[]) rfl rfl rfl eE (by refine xS ?_;rfl) rfl om om (by simp) rfl fun g hg=> ?_
  refine aw_conv1 (f':=hssF []) (fun j hj=>absurd hj om) ?_
  refine xSG ?_
  rcases Nat.eq_zero_or_pos xs.length with h0|h0
  ·have hp:xs=[]:=List.length_eq_zero_iff.1 h0
   subst hp
   refine aw_append0 rfl rfl rfl eE eE rfl eE .row rfl ?_
   refine xSGU ?_
   exact⟨some g,fun _=>trivial,rfl,rfl⟩
  ·refine aw_append (size:=2) (z:=[.str ⟨#[]⟩,.bool false]) rfl rfl rfl (by exact tya_e_23) (by exact tya_z_105) rfl om eE eE om eE .row (fun j hj=>hssF_solid xs j) h0 qc om eE fun g' hg'=> ?_
   refine xSGU ?_
   have hf:appF (hssF []) 0 (hssF xs)=hssF xs:=by funext j;simp [appF]
   rw [hf]
   exact⟨some g',(fun e=>by cases e),rfl,rfl⟩
theorem pclone_fa (r:RD) (hw:r.wf 1000):Fa Tryz.prog 45 [.agg (rdc r)] (.agg (rdc r)):=by
 have l1:=hw.2.2.1
 have l2:=hw.2.2.2
 have f1:=cloneW_fa r.num om
 have f2:=cloneW_fa r.den om
 refine fa_of_body Tryz.func45 rfl rfl (by simp [Tryz.ntmps45]) fun C hC=> ?_
 simp only [initS,Nat.reduceAdd]
 refine xG ?_
 refine xB fun g1 hn_g1=>?_
 refine yA hn_g1 fun g2 hn_g2=>?_
 refine zA (oj hn_g1 hn_g2) ?_
 refine aw_dr 9 ty_mixed (by kernel_rfl) ?_
 refine zA2 (oj hn_g1 hn_g2) f1 f2 ?_
 refine yT hC (oj hn_g1 hn_g2) ?_
 exact .one (.agg lerl_rd)
end Go.Proofs.YtpcpaekpnfkhhaaGreatDoor
namespace Go.PN
open Go.AI
theorem normG_free {x:GtD} (h:freeK x.kind):normG x=⟨x.name,x.kind,x.k,sortK id x.inputs,x.dorm⟩:=by
 unfold normG normI
 rw [if_pos h]
theorem normG_8 {x:GtD} (h:x.kind=8) {a:BS} {l:List BS} (hi:x.inputs=a::l):normG x=⟨x.name,x.kind,x.k,a::sortK id l,x.dorm⟩:=by
 unfold normG normI freeK
 rw [if_neg om,if_pos h,hi]
 rfl
theorem normG_no {x:GtD} (h:¬freeK x.kind) (h8:x.kind≠8):normG x=x:=by
 unfold normG normI
 rw [if_neg h,if_neg h8]
theorem mapTake_succ {α β:Type} (f:α→β) (l:List α) (d:α) {j:Nat} (hj:j<l.length):(l.map f).take (j+1)=(l.map f).take j++[f (l.getD j d)]:=by
 rw [List.take_add_one,List.getElem?_map,List.getElem?_eq_getElem hj,List.getD_eq_getElem?_getD,List.getElem?_eq_getElem hj];rfl
theorem mapTake_len {α β:Type} (f:α→β) (l:List α) {j:Nat} (hj:j≤l.length):((l.map f).take j).length=j:=by
 rw [List.length_take,List.length_map];omega
def GtN (x:GtD):Prop:=x.dorm.wf 1000∧1≤x.inputs.length∧x.inputs.length≤16∧(x.kind=8→2≤x.inputs.length)
end Go.PN
namespace Go.Proofs.YtpcpaekpnfkhhaaGreatDoor
open Go.AI Go.PN
abbrev gtcS (x:GtD) (v:CV):List CV:=[.str (sB x.name),.int .i64 x.kind,.int .i64 x.k,v,.bool x.dorm.neg,ws true x.dorm.num,ws true x.dorm.den]
attribute [local irreducible] aw Fa Fh DrK
theorem pgates_fa (L:List GtD) (hO:∀g∈L,GtN g) (hl:L.length≤1048576) (hn:(gnN L).Nodup):Fa Tryz.prog 41 [.c (gts true L)] (.c (gts true (normL L))):=by
 have l1:L.length≤1099511627776:=by omega
 refine fa_of_body Tryz.func41 rfl rfl (by simp [Tryz.ntmps41]) fun C hC=> ?_
 simp only [initS,Nat.reduceAdd]
 refine zA o0 ?_
 refine aw_lp (fun z:Nat×Option Nat=>[(3,.c (gs z.2 7 z.1)),(6,.c (gts true L)),(7,.c (.int .i64 L.length)),(8,.c (.int .i64 z.1))]) (fun z=>gh z.2 140 (z.1*7) (gtsF ((L.map normG).take z.1))) (fun z=>z.1≤L.length∧(z.2=none→z.1=0)) (fun z=>L.length-z.1) (0,none) eB zZ ⟨Nat.zero_le _,fun _=>rfl⟩ ?_
 rintro ⟨j,og⟩ ⟨hj,hog⟩
 dsimp only at hj hog⊢
 by_cases hjn:j<L.length
 ·have d1:decide (j<L.length)=true:=decide_eq_true hjn
  have hx:=hO (L.getD j gt0) (by rw [List.getD_eq_getElem?_getD,List.getElem?_eq_getElem hjn];exact List.getElem_mem _)
  have hT:=mapTake_succ normG L gt0 hjn
  have hTl:=mapTake_len normG L (Nat.le_of_lt hjn)
  generalize hv:L.getD j gt0=x at*
  obtain⟨hd,hi1,hi2,hi3⟩:=hx
  have fc:=pclone_fa x.dorm hd
  refine zA (oj d1 hv) ?_
  refine yA (oj d1 hv) fun g5 hn_g5=>?_
  refine zA (oj d1 (oj hv hn_g5)) ?_
  refine aw_callh (hc:=[]) (hr:=(g5,.cells 140 7 (ofL (gtc x)))::gh og 140 (j*7) (gtsF ((L.map normG).take j))) (cloneS_fh x.inputs om) rfl rfl rfl (.refl _) (zL (oj d1 (oj hv hn_g5))) ?_
  rintro _ _ ⟨og2,hog2,rfl,rfl⟩ hk
  cases og2 with
  |none=>exact absurd (hog2 rfl) om
  |some g2=>
   have hne0:g2≠g5:=fun e=>hk g2 (by simp [Heap.keys,gh]) (by simp [Heap.keys,e])
   have hne:(g2=g5)=False:=eq_false hne0
   have hne':(g5=g2)=False:=eq_false hne0.symm
   refine(?_:aw _ _ _ ((g2,.cells 9 (x.inputs.length*1) (strsF x.inputs))::(g5,.cells 140 7 (ofL (gtc x)))::gh og 140 (j*7) (gtsF ((L.map normG).take j))))
   by_cases hfree:freeK x.kind
   ·have hN:=normG_free hfree
    rw [hN] at hT
    clear hN
    obtain⟨nm,kd,kk,inp,dm⟩:=x
    dsimp only at*
    have hln:(sortK id inp).length=inp.length:=(sortK_perm id inp).length_eq
    have hcall:=srtSt_fh (some g2) inp (fun e=>by cases e) om
    simp only [Nat.mul_one] at hcall
    rcases hfree with e|e|e|e
    all_goals
     have b0:(kd==0)=_:=congrArg (·==0) e
     have b1:(kd==1)=_:=congrArg (·==1) e
     have b2:(kd==2)=_:=congrArg (·==2) e
     have b4:(kd==4)=_:=congrArg (·==4) e
     refine zA1 (oj d1 (oj hv (oj hn_g5 (oj hne (oj hne' (oj b0 (oj b1 (oj b2 b4)))))))) fc ?_
     refine aw_callh (hc:=gh (some g2) 9 inp.length (strsF inp)) (hr:=(g5,.cells 140 7 (ofL (gtcS ⟨nm,kd,kk,inp,dm⟩ (gs (some g2) 1 inp.length))))::gh og 140 (j*7) (gtsF ((L.map normG).take j))) hcall rfl rfl rfl (.refl _) (zL (oj d1 (oj hv (oj hn_g5 (oj hne (oj hne' (oj b0 (oj b1 (oj b2 b4))))))))) ?_
     rintro _ _ ⟨rfl,rfl⟩ _
     refine aw_perm (h':=(g5,.cells 140 7 (ofL (gtcS ⟨nm,kd,kk,inp,dm⟩ (gs (some g2) 1 inp.length))))::(gh (some g2) 9 (inp.length*1) (strsF (sortK id inp))++gh og 140 (j*7) (gtsF ((L.map normG).take j)))) (by rw [Nat.mul_one];exact List.Perm.swap _ _ _) ?_
     refine aw_frzG (j0:=3) (m:=7) (f:=ofL (gtcS ⟨nm,kd,kk,inp,dm⟩ (gs (some g2) 1 inp.length))) (f':=ofL (gtc ⟨nm,kd,kk,sortK id inp,dm⟩)) (fp:=strsF (sortK id inp)) rfl (by show CV.row true 1 _ _=CV.row true 1 _ _;rw [hln]) (fun i hi h3=>by match i,hi,h3 with|0,_,_=>rfl|1,_,_=>rfl|2,_,_=>rfl|3,_,h=>exact absurd rfl h|4,_,_=>rfl|5,_,_=>rfl|6,_,_=>rfl) (fun e=>by cases e) (fun g _=>hC g) ?_
     have J1:=oj d1 (oj hv (oj hn_g5 (oj hne (oj hne' (oj b0 (oj b1 (oj b2 b4)))))))
     refine yS J1 ?_
     refine zA J1 ?_
     refine aw_push (pre:=[(g5,.cells 140 7 (ofL (gtc ⟨nm,kd,kk,sortK id inp,dm⟩)))]) rfl rfl rfl rfl rfl rfl rfl (zE J1) (zE J1) (by rfl) om om (zE J1) om (by exact hog) (zE J1) (by rfl) (by rfl) qb qc om (by exact gts_push hTl ⟨nm,kd,kk,sortK id inp,dm⟩) fun gq hn_gq=> ?_
     replace hn_gq:=Heap.ne_of hn_gq
     first|dsimp only [Heap.ne,gh] at hn_gq|dsimp only [Heap.ne] at hn_gq|skip
     have J2:=oj d1 (oj hv (oj hn_g5 (oj hne (oj hne' (oj b0 (oj b1 (oj b2 (oj b4 hn_gq))))))))
     refine yS J2 ?_
     refine zA J2 ?_
     rw [←hT]
     refine aw_weak (h':=gh (some gq) 140 ((j+1)*7) (gtsF ((L.map normG).take (j+1)))) (Sl.le_refl _) (.cons _ (List.Sublist.refl _)) ?_
     exact aw_stop ⟨(j+1,some gq),by dsimp only;omega,(zB J2),zZ,by dsimp only;omega,fun e=>by cases e⟩
   ·by_cases h8:x.kind=8
    ·obtain⟨nm,kd,kk,inp,dm⟩:=x
     dsimp only at*
     subst h8
     cases inp with
     |nil=>exact absurd hi1 (by simp)
     |cons a inp=>
      have hN:=normG_8 (x:=⟨nm,8,kk,a::inp,dm⟩) rfl rfl
      dsimp only at hN
      have hi4:1≤inp.length:=by have:=hi3 rfl;simpa using this
      have hi5:inp.length≤15:=by simpa using hi2
      have hln:(a::sortK id inp).length=(a::inp).length:=by simp [(sortK_perm id inp).length_eq]
      have hcall:=srtSt1_fh g2 a inp om
      rw [hN] at hT
      clear hN
      refine zA1 (oj d1 (oj hv (oj hn_g5 (oj hne hne')))) fc ?_
      refine aw_pok (POk.sliceO (g:=g2) (size:=1) (off:=0) (n:=(a::inp).length) (l:=1) (hi:=(a::inp).length) (by exact tya_e_92) (zE (oj d1 (oj hv (oj hn_g5 (oj hne hne'))))) rfl rfl (by simp) (Nat.le_refl _) (.inr (by rw [List.length_cons];omega))) rfl rfl ?_
      have J3:=oj d1 (oj hv (oj hn_g5 (oj hne hne')))
      refine yS J3 ?_
      rw [show inp.length+1-1=inp.length from rfl,Nat.add_comm inp.length 1]
      refine aw_callh (hc:=[(g2,.cells 9 (1+inp.length) (strsF (a::inp)))]) (hr:=(g5,.cells 140 7 (ofL (gtcS ⟨nm,8,kk,(a::inp),dm⟩ (gs (some g2) 1 (1+inp.length)))))::gh og 140 (j*7) (gtsF ((L.map normG).take j))) hcall rfl rfl rfl (.refl _) (zL J3) ?_
      rintro _ _ ⟨rfl,rfl⟩ _
      rw [Nat.add_comm 1 inp.length]
      refine aw_perm (h':=(g5,.cells 140 7 (ofL (gtcS ⟨nm,8,kk,(a::inp),dm⟩ (gs (some g2) 1 (a::inp).length))))::(gh (some g2) 9 ((a::inp).length*1) (strsF (a::sortK id inp))++gh og 140 (j*7) (gtsF ((L.map normG).take j)))) (by rw [Nat.mul_one];exact List.Perm.swap _ _ _) ?_
      refine aw_frzG (j0:=3) (m:=7) (f:=ofL (gtcS ⟨nm,8,kk,(a::inp),dm⟩ (gs (some g2) 1 (a::inp).length))) (f':=ofL (gtc ⟨nm,8,kk,a::sortK id inp,dm⟩)) (fp:=strsF (a::sortK id inp)) rfl (by show CV.row true 1 _ _=CV.row true 1 _ _;rw [hln]) (fun i hi h3=>by match i,hi,h3 with|0,_,_=>rfl|1,_,_=>rfl|2,_,_=>rfl|3,_,h=>exact absurd rfl h|4,_,_=>rfl|5,_,_=>rfl|6,_,_=>rfl) (fun e=>by cases e) (fun g _=>hC g) ?_
      refine yS J3 ?_
      refine zA J3 ?_
      refine aw_push (pre:=[(g5,.cells 140 7 (ofL (gtc ⟨nm,8,kk,a::sortK id inp,dm⟩)))]) rfl rfl rfl rfl rfl rfl rfl (zE J3) (zE J3) (by rfl) om om (zE J3) om (by exact hog) (zE J3) (by rfl) (by rfl) qb qc om (by exact gts_push hTl ⟨nm,8,kk,a::sortK id inp,dm⟩) fun gq hn_gq=> ?_
      replace hn_gq:=Heap.ne_of hn_gq
      first|dsimp only [Heap.ne,gh] at hn_gq|dsimp only [Heap.ne] at hn_gq|skip
      have J4:=oj d1 (oj hv (oj hn_g5 (oj hne (oj hne' hn_gq))))
      refine yS J4 ?_
      refine zA J4 ?_
      rw [←hT]
      refine aw_weak (h':=gh (some gq) 140 ((j+1)*7) (gtsF ((L.map normG).take (j+1)))) (Sl.le_refl _) (.cons _ (List.Sublist.refl _)) ?_
      exact aw_stop ⟨(j+1,some gq),by dsimp only;omega,(zB J4),zZ,by dsimp only;omega,fun e=>by cases e⟩
    ·have hN:=normG_no hfree h8
     rw [hN] at hT
     clear hN
     obtain⟨nm,kd,kk,inp,dm⟩:=x
     dsimp only at*
     have hln:inp.length=inp.length:=rfl
     have b0:(kd==0)=false:=by unfold freeK at hfree;simp only [beq_eq_false_iff_ne];omega
     have b1:(kd==1)=false:=by unfold freeK at hfree;simp only [beq_eq_false_iff_ne];omega
     have b2:(kd==2)=false:=by unfold freeK at hfree;simp only [beq_eq_false_iff_ne];omega
     have b4:(kd==4)=false:=by unfold freeK at hfree;simp only [beq_eq_false_iff_ne];omega
     have b8:(kd==8)=false:=by simp only [beq_eq_false_iff_ne];omega
     refine zA (oj d1 (oj hv (oj hn_g5 (oj hne (oj hne' (oj b0 (oj b1 (oj b2 (oj b4 b8))))))))) ?_
     refine aw_perm (h':=(g5,.cells 140 7 (ofL (gtcS ⟨nm,kd,kk,inp,dm⟩ (gs (some g2) 1 inp.length))))::(gh (some g2) 9 (inp.length*1) (strsF inp)++gh og 140 (j*7) (gtsF ((L.map normG).take j)))) (by rw [Nat.mul_one];exact List.Perm.swap _ _ _) ?_
     refine aw_frzG (j0:=3) (m:=7) (f:=ofL (gtcS ⟨nm,kd,kk,inp,dm⟩ (gs (some g2) 1 inp.length))) (f':=ofL (gtc ⟨nm,kd,kk,inp,dm⟩)) (fp:=strsF inp) rfl rfl (fun i hi h3=>by match i,hi,h3 with|0,_,_=>rfl|1,_,_=>rfl|2,_,_=>rfl|3,_,h=>exact absurd rfl h|4,_,_=>rfl|5,_,_=>rfl|6,_,_=>rfl) (fun e=>by cases e) (fun g _=>hC g) ?_
     have J5:=oj d1 (oj hv (oj hn_g5 (oj hne (oj hne' (oj b0 (oj b1 (oj b2 (oj b4 b8))))))))
     refine yS J5 ?_
     refine zA1 J5 fc ?_
     refine aw_push (pre:=[(g5,.cells 140 7 (ofL (gtc ⟨nm,kd,kk,inp,dm⟩)))]) rfl rfl rfl rfl rfl rfl rfl (zE J5) (zE J5) (by rfl) om om (zE J5) om (by exact hog) (zE J5) (by rfl) (by rfl) qb qc om (by exact gts_push hTl ⟨nm,kd,kk,inp,dm⟩) fun gq hn_gq=> ?_
     replace hn_gq:=Heap.ne_of hn_gq
     first|dsimp only [Heap.ne,gh] at hn_gq|dsimp only [Heap.ne] at hn_gq|skip
     have J6:=oj d1 (oj hv (oj hn_g5 (oj hne (oj hne' (oj b0 (oj b1 (oj b2 (oj b4 (oj b8 hn_gq)))))))))
     refine yS J6 ?_
     refine zA J6 ?_
     rw [←hT]
     refine aw_weak (h':=gh (some gq) 140 ((j+1)*7) (gtsF ((L.map normG).take (j+1)))) (Sl.le_refl _) (.cons _ (List.Sublist.refl _)) ?_
     exact aw_stop ⟨(j+1,some gq),by dsimp only;omega,(zB J6),zZ,by dsimp only;omega,fun e=>by cases e⟩
 ·have d1:decide (j<L.length)=false:=decide_eq_false hjn
  obtain rfl:j=L.length:=by omega
  have hT:(L.map normG).take L.length=L.map normG:=List.take_of_length_le (by simp)
  have hlm:(L.map normG).length=L.length:=by simp
  have hcall:=srtGt_fh og (L.map normG) (by rw [hlm];exact hog) (by rw [List.map_map];exact hn) (by rw [hlm];omega)
  rw [hT]
  rw [hlm] at hcall
  refine zA d1 ?_
  refine aw_callh (hc:=gh og 140 (L.length*7) (gtsF (L.map normG))) (hr:=[]) hcall rfl rfl rfl (by rw [List.append_nil]) (zL d1) ?_
  rintro _ _ ⟨rfl,rfl⟩ _
  refine yS d1 ?_
  refine zA d1 ?_
  have hnl:(normL L).length=L.length:=by unfold normL;rw [(sortK_perm _ _).length_eq,hlm]
  refine aw_perm (h':=gh og 140 (L.length*7) (gtsF (normL L))++[]) (by rw [List.append_nil];exact .refl _) ?_
  refine aw_frzGT (t:=2) (s:=7) (f:=gtsF (normL L)) (f':=gtsF (normL L)) hog hnl.symm (zE d1) (fun g _=>hC g) (fun i _=>rfl) (zE d1) ?_
  refine yS d1 ?_
  refine yT hC d1 ?_
  exact .one (.c ler_gts)
end Go.Proofs.YtpcpaekpnfkhhaaGreatDoor
namespace Go.AI
def addE:List Oper→Nat→Nat→List Oper
 |[],_,_=>[]
 |o::l,0,i=>{o with after:=o.after.push {on:=i,ground:=.data}}::l
 |o::l,j+1,i=>o::addE l j i
theorem addE_len:∀(l:List Oper) (j i:Nat),(addE l j i).length=l.length
 |[],_,_=>rfl
 |o::l,0,i=>rfl
 |o::l,j+1,i=>by simp [addE,addE_len l j i]
theorem addE_ne:∀(l:List Oper) (j i k:Nat),k≠j→(addE l j i)[k]?=l[k]?
 |[],_,_,_,_=>rfl
 |o::l,0,i,0,h=>absurd rfl h
 |o::l,0,i,k+1,_=>by simp [addE]
 |o::l,j+1,i,0,_=>by simp [addE]
 |o::l,j+1,i,k+1,h=>by simp [addE,addE_ne l j i k (fun e=>h om)]
theorem addE_eq:∀(l:List Oper) (j i:Nat),(addE l j i)[j]?=(l[j]?).map fun o=>{o with after:=o.after.push {on:=i,ground:=.data}}
 |[],_,_=>rfl
 |o::l,0,i=>by simp [addE]
 |o::l,j+1,i=>by simp [addE,addE_eq l j i]
section
variable {P : Program} {Q : Exit → Act → World → Prop} {l : List Oper} {i0 j0 : Nat}
theorem rdy_iff {ops:Array Oper} {listed:Array Bool} {i:Nat}:i∈Region.ready .any ops listed↔i<ops.size∧listed.getD i true=false∧∃o,ops[i]?=some o∧∀e∈o.after,Region.binds .any e=true→listed.getD e.on false=true:=by
 unfold Region.ready
 rw [List.mem_filter,List.mem_range]
 constructor
 ·rintro ⟨h1,h2⟩
  rw [Bool.and_eq_true,Bool.not_eq_true'] at h2
  obtain⟨h2,h3⟩:=h2
  refine⟨h1,h2,ops[i],by simp [h1],fun e he hb=> ?_⟩
  rw [show ops[i]?=some ops[i] from by simp [h1]] at h3
  simp only [Option.map_some,Option.getD_some,Array.all_eq_true'] at h3
  have:=h3 e he
  rw [hb] at this
  simpa using this
 ·rintro ⟨h1,h2,o,ho,h3⟩
  refine⟨h1,?_⟩
  rw [h2,ho]
  simp only [Bool.not_false,Bool.true_and,Option.map_some,Option.getD_some,Array.all_eq_true']
  intro e he
  cases hb:Region.binds .any e with
  |false=>rfl
  |true=>rw [h3 e he hb];rfl
theorem ready_less {listed:Array Bool} {i:Nat} (h:i∈Region.ready .any (addE l j0 i0).toArray listed):i∈Region.ready .any l.toArray listed:=by
 rw [rdy_iff] at h⊢
 obtain⟨h1,h2,o,ho,h3⟩:=h
 simp only [List.size_toArray,addE_len,List.getElem?_toArray] at h1 ho⊢
 refine⟨h1,h2,?_⟩
 by_cases e:i=j0
 ·subst e
  rw [addE_eq] at ho
  obtain⟨o',ho',rfl⟩:=Option.map_eq_some_iff.1 ho
  exact⟨o',ho',fun e he hb=>h3 e (by simp [he]) hb⟩
 ·rw [addE_ne _ _ _ _ e] at ho
  exact⟨o,ho,h3⟩
theorem ready_more {listed:Array Bool} {i:Nat} (h:i∈Region.ready .any l.toArray listed) (hi:i≠j0∨listed.getD i0 false=true):i∈Region.ready .any (addE l j0 i0).toArray listed:=by
 rw [rdy_iff] at h⊢
 obtain⟨h1,h2,o,ho,h3⟩:=h
 simp only [List.size_toArray,addE_len,List.getElem?_toArray] at h1 ho⊢
 refine⟨h1,h2,?_⟩
 by_cases e:i=j0
 ·subst e
  have hl:=hi.resolve_left (fun h=>h rfl)
  rw [addE_eq,ho]
  refine⟨_,rfl,fun e he hb=> ?_⟩
  simp only [Array.mem_push] at he
  rcases he with he|rfl
  ·exact h3 e he hb
  ·exact hl
 ·rw [addE_ne _ _ _ _ e]
  exact⟨o,ho,h3⟩
def Ord (ops:Array Oper):Nat→Array Bool→List Nat→Prop
 |0,_,π=>π=[]
 |_+1,listed,[]=>Region.ready .any ops listed=[]
 |n+1,listed,i::π=>i∈Region.ready .any ops listed∧Ord ops n (listed.setIfInBounds i true) π
theorem ord_any {ops:Array Oper}:∀(n:Nat) (listed:Array Bool) (π:List Nat) (a:Act) (w:World),wpAny P .any ops Q n listed a w→Ord ops n listed π→wpOps P ops Q π a w:=by
 intro n
 induction n with
 |zero=>intro listed π a w h ho;obtain rfl:π=[]:=ho;simpa [wpOps] using h.2
 |succ n ih=>
  intro listed π a w h ho
  cases π with
  |nil=>simpa [wpOps] using h.1 ho
  |cons i π=>
   rw [wpOps_cons]
   exact wpOp_mono (fun a w k=>ih _ π a w k ho.2) (h.2 i ho.1)
theorem ord_go {ops:Array Oper}:∀(fuel t:Nat) (listed:Array Bool),Ord ops fuel listed (Region.linearise.go .any ops fuel t listed []):=by
 intro fuel
 induction fuel with
 |zero=>intro t listed;rfl
 |succ fuel ih=>
  intro t listed
  simp only [Region.linearise.go]
  change Ord ops (fuel+1) listed (match (Region.ready .any ops listed)[t%(Region.ready .any ops listed).length]? with
   |some i=>Region.linearise.go .any ops fuel (t/(Region.ready .any ops listed).length) (listed.setIfInBounds i true) [i]
   |none=>[].reverse)
  cases hi:(Region.ready .any ops listed)[t%(Region.ready .any ops listed).length]? with
  |none=>
   show Region.ready .any ops listed=[]
   cases hr:Region.ready .any ops listed with
   |nil=>rfl
   |cons x xs=>
    rw [hr] at hi
    have hlt:t%(x::xs).length<(x::xs).length:=Nat.mod_lt _ (by simp)
    simp at hi
    simp at hlt
    omega
  |some i=>
   simp only []
   rw [linearise_go_acc,List.reverse_singleton,List.singleton_append]
   exact⟨List.mem_of_getElem? hi,ih _ _⟩
theorem set_get {listed:Array Bool} {i k:Nat} (h:listed.getD k false=true):(listed.setIfInBounds i true).getD k false=true:=by
 rw [Array.getD_eq_getD_getElem?] at h⊢
 rw [Array.getElem?_setIfInBounds]
 split
 ·split
  ·rfl
  ·rename_i h1 h2
   subst h1
   rw [Array.getElem?_eq_none om] at h
   cases h
 ·exact h
theorem set_self {listed:Array Bool} {i:Nat} (h:listed.getD i true=false):(listed.setIfInBounds i true).getD i false=true:=by
 rw [Array.getD_eq_getD_getElem?] at h⊢
 by_cases hi:i<listed.size
 ·rw [Array.getElem?_setIfInBounds_self_of_lt hi];rfl
 ·rw [Array.getElem?_eq_none om] at h;cases h
theorem ord_done:∀(n:Nat) (listed:Array Bool) (π:List Nat),listed.getD i0 false=true→Ord l.toArray n listed π→Ord (addE l j0 i0).toArray n listed π:=by
 intro n
 induction n with
 |zero=>intro listed π _ h;exact h
 |succ n ih=>
  intro listed π hl h
  cases π with
  |nil=>
   show Region.ready .any (addE l j0 i0).toArray listed=[]
   have h':Region.ready .any l.toArray listed=[]:=h
   refine List.eq_nil_iff_forall_not_mem.2 fun i hi=> ?_
   have:=ready_less hi
   rw [h'] at this
   cases this
  |cons i π=>exact⟨ready_more h.1 (.inr hl),ih _ π (set_get hl) h.2⟩
theorem ord_alt (hne:i0≠j0):∀(n:Nat) (listed:Array Bool) (π:List Nat),Ord l.toArray n listed π→Ord (addE l j0 i0).toArray n listed π∨Ord (addE l i0 j0).toArray n listed π:=by
 intro n
 induction n with
 |zero=>intro listed π h;exact .inl h
 |succ n ih=>
  intro listed π h
  cases π with
  |nil=>
   refine .inl ?_
   show Region.ready .any (addE l j0 i0).toArray listed=[]
   have h':Region.ready .any l.toArray listed=[]:=h
   refine List.eq_nil_iff_forall_not_mem.2 fun i hi=> ?_
   have:=ready_less hi
   rw [h'] at this
   cases this
  |cons i π=>
   obtain⟨h1,h2⟩:=h
   have hnl:=(rdy_iff.1 h1).2.1
   by_cases e1:i=i0
   ·subst e1
    exact .inl ⟨ready_more h1 (.inl hne),ord_done n _ π (set_self hnl) h2⟩
   ·by_cases e2:i=j0
    ·subst e2
     exact .inr ⟨ready_more h1 (.inl e1),ord_done n _ π (set_self hnl) h2⟩
    ·rcases ih _ π h2 with h|h
     ·exact .inl ⟨ready_more h1 (.inl e2),h⟩
     ·exact .inr ⟨ready_more h1 (.inl e1),h⟩
theorem wpOp_addE {k:Nat} {K:Act→World→Prop} {a:Act} {w:World}:wpOp P (addE l j0 i0).toArray Q k K a w=wpOp P l.toArray Q k K a w:=by
 have hy:yielded (addE l j0 i0).toArray a.tmps=yielded l.toArray a.tmps:=by
  funext j
  have:((addE l j0 i0).toArray[j]?).bind (·.dst)=(l.toArray[j]?).bind (·.dst):=by
   simp only [List.getElem?_toArray]
   by_cases e:j=j0
   ·subst e;rw [addE_eq];cases l[j]?<;>rfl
   ·rw [addE_ne _ _ _ _ e]
  unfold yielded
  rw [this]
 unfold wpOp
 rw [hy]
 simp only [List.getElem?_toArray]
 by_cases e:k=j0
 ·subst e
  rw [addE_eq]
  cases l[k]?<;>rfl
 ·rw [addE_ne _ _ _ _ e]
theorem wpOps_addE:∀(π:List Nat) (a:Act) (w:World),wpOps P (addE l j0 i0).toArray Q π a w→wpOps P l.toArray Q π a w:=by
 intro π
 induction π with
 |nil=>intro a w h;exact h
 |cons k π ih=>
  intro a w h
  rw [wpOps_cons] at h⊢
  rw [wpOp_addE] at h
  exact wpOp_mono (fun a w k=>ih a w k) h
end
section
variable {E : Env} {K : List It} {l : List Oper} {σ : Sl} {h : Heap}
def AwAny (E:Env) (K:List It) (l:List Oper) (σ:Sl) (h:Heap):Prop:=
 ∀(a:Act) (w:World),St E.N E.C σ h a w→∀π,Ord l.toArray l.length (Array.replicate l.length false) π→wpOps E.P l.toArray (exW E K) π a {w with drawn:=w.drawn+1}
theorem any_alt (i0 j0:Nat) (hne:i0≠j0) (k1:AwAny E K (addE l j0 i0) σ h) (k2:AwAny E K (addE l i0 j0) σ h):AwAny E K l σ h:=fun a w s π ho=>by
 rcases ord_alt hne _ _ _ ho with h|h
 ·exact wpOps_addE π _ _ (k1 a w s π (by rw [addE_len];exact h))
 ·exact wpOps_addE π _ _ (k2 a w s π (by rw [addE_len];exact h))
theorem aw_any {id:Nat} (hm:E.P.follows .mixedOrders=true) (k:AwAny E K l σ h):aw E (.code (.region id l.toArray true)::K) σ h:=fun a w s=>by
 refine wp_region_draw fun t=> ?_
 simp only [Region.schedule,hm,Bool.true_or,if_true]
 have:=k a w s _ (ord_go l.toArray.size t (Array.replicate l.toArray.size false))
 exact this
theorem go_rank {l:List Oper}:∀(cs:List (Nat×Nat)) (seen pn fr:List Nat),cwGo l seen pn fr cs=true→∀i o,i∈cs.map (·.1)→l[i]?=some o→∀e∈o.after,Region.binds .any e=true→e.on∈seen∨(e.on∈cs.map (·.1)∧(cs.map (·.1)).idxOf e.on<(cs.map (·.1)).idxOf i):=by
 intro cs
 induction cs with
 |nil=>intro seen pn fr _ i o hi;cases hi
 |cons c cs ih=>
  intro seen pn fr hg i o hi ho e he hb
  obtain⟨c,b⟩:=c
  have hnew:=cwGo_new hg
  simp only [cwGo,Bool.and_eq_true] at hg
  obtain⟨h1,h2⟩:=hg
  by_cases hic:i=c
  ·subst hic
   split at h1
   ·cases h1
   ·rename_i o' ho'
    rw [ho] at ho'
    injection ho' with ho'
    subst ho'
    simp only [Bool.and_eq_true] at h1
    exact .inl (deps_mem h1.1.1.2 he hb)
  ·have hi':i∈cs.map (·.1):=by
    simp only [List.map_cons,List.mem_cons] at hi
    exact hi.resolve_left hic
   rcases ih _ _ _ h2 i o hi' ho e he hb with h|⟨h3,h4⟩
   ·rcases List.mem_cons.1 h with h|h
    ·refine .inr ⟨by rw [h];simp,?_⟩
     rw [h]
     have b1:(c==i)=false:=beq_eq_false_iff_ne.2 fun h=>hic h.symm
     simp only [List.map_cons,List.idxOf_cons,b1,cond_false,beq_self_eq_true,cond_true]
     omega
    ·exact .inl h
   ·refine .inr ⟨by simp only [List.map_cons,List.mem_cons];exact .inr h3,?_⟩
    by_cases hec:e.on=c
    ·exact absurd (List.mem_cons_self ..) (cwGo_new h2 _ (hec▸h3))
    ·have b1:(c==i)=false:=beq_eq_false_iff_ne.2 fun h=>hic h.symm
     have b2:(c==e.on)=false:=beq_eq_false_iff_ne.2 fun h=>hec h.symm
     simp only [List.map_cons,List.idxOf_cons,b1,b2,cond_false]
     omega
theorem cwGo_lt {l:List Oper}:∀{cs:List (Nat×Nat)} {seen pn fr:List Nat},cwGo l seen pn fr cs=true→∀i∈cs.map (·.1),i<l.length:=by
 intro cs
 induction cs with
 |nil=>intro seen pn fr _ i hi;cases hi
 |cons c cs ih=>
  intro seen pn fr hg i hi
  obtain⟨c,b⟩:=c
  simp only [cwGo,Bool.and_eq_true] at hg
  obtain⟨h1,h2⟩:=hg
  simp only [List.map_cons,List.mem_cons] at hi
  rcases hi with rfl|hi
  ·split at h1
   ·cases h1
   ·rename_i o ho
    exact(List.getElem?_eq_some_iff.1 ho).1
  ·exact ih h2 i hi
theorem any_cw (FP:Heap) (cs:List (Nat×Nat)) (hok:(lexP l&&cwGo l [] [] [] cs&&((List.range l.length).all fun i=>(cs.map (·.1)).contains i))=true) (hFP:Has0 FP h) (k:CW E l K FP cs σ h):AwAny E K l σ h:=fun a w s π ho=>by
 simp only [Bool.and_eq_true] at hok
 obtain⟨⟨hlx,hgo⟩,hall⟩:=hok
 have hrk:Ranked l:=⟨fun i=>(cs.map (·.1)).idxOf i,fun i o ho e he hb=>by
  have hi:=(List.getElem?_eq_some_iff.1 ho).1
  have hm:∀q,q<l.length→q∈cs.map (·.1):=fun q hq=>by simpa using List.all_eq_true.1 hall q (List.mem_range.2 hq)
  rcases go_rank cs [] [] [] hgo i o (hm i hi) ho e he hb with h|⟨h3,h4⟩
  ·cases h
  ·exact⟨cwGo_lt hgo _ h3,h4⟩⟩
 have s':=s.later (Fr.drew (fun _=>False) w (w.drawn+1))
 have e0:∀j,(Array.replicate l.length false).getD j false=false:=fun j=>by
  rw [Array.getD_eq_getD_getElem?]
  simp only [Array.getElem?_replicate]
  split<;>rfl
 have hun:∀m,unl (fun j=>(Array.replicate l.length false).getD j false) m=m:=by
  intro m
  induction m with
  |zero=>rfl
  |succ m ih=>rw [unl,ih,e0];rfl
 refine ord_any _ _ _ _ _ ?_ ho
 have:=draw_cw (E:=E) (K:=K) (σ0:=σ) hlx hrk l.length FP (Array.replicate l.length false) σ h a {w with drawn:=w.drawn+1} (hun _) ⟨[],[],[],cs,σ,fun _=>.c .any,by simp,fun i o _ hl=>(by rw [e0] at hl;cases hl),hgo,fun i hi=>absurd hi List.not_mem_nil,fun i hi=>.inr ?_,k,hFP,fun j hj=>absurd hj List.not_mem_nil,⟨fun j _ _ hj=>absurd hj List.not_mem_nil,fun _ _=>rfl⟩,fun i hi=>absurd hi List.not_mem_nil,fun p hp=>absurd hp List.not_mem_nil,⟨fun j _ _ hj=>(by rw [e0] at hj;cases hj),fun _ _=>rfl⟩,fun i _ hl=>(by rw [e0] at hl;cases hl)⟩ s'
 ·simpa using this
 ·have:=List.all_eq_true.1 hall i (List.mem_range.2 hi)
  simpa using this
end
end Go.AI
