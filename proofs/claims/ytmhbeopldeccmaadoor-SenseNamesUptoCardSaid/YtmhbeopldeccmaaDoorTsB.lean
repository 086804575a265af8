/-
  strconv.FormatInt: the kit's dM at this program.
-/
import Derived.Shelf.LaysM
import Derived.Shelf.Strconv.Itoa4
import Derived.Shelf.LaysC
import Derived.Test.YtmhbeopldeccmaaDoorProg
namespace Go.Proofs
open Go.Shelf
def Tryd.FM:Go.Shelf.Ren:=⟨fun | 173=>56 | 246=>61 | 283=>62 | 284=>63 | 285=>64 | 286=>65 | 129=>67 | 317=>66 | 318=>68 | 319=>69 | 320=>70 | 337=>71 | 338=>72 | n=>n,fun | 2=>2 | 3=>3 | 9=>9 | 4=>4 | 171=>109 | 0=>0 | 53=>110 | 37=>71 | 5=>5 | 173=>113 | 212=>117 | 51=>118 | 20=>20 | 213=>119 | 46=>121 | 232=>124 | 233=>125 | n=>n,fun | 17=>0 | 18=>1 | 19=>2 | n=>n⟩
theorem Tryd.M0:Go.Proofs.LaysM.n173 Tryd.prog Tryd.FM:={
 mixed:=by kernel_rfl
 f129:=Tryd.func67.trans (congrArg some (by kernel_rfl))
 f173:=Tryd.func56.trans (congrArg some (by kernel_rfl))
 f246:=Tryd.func61.trans (congrArg some (by kernel_rfl))
 f283:=Tryd.func62.trans (congrArg some (by kernel_rfl))
 f284:=Tryd.func63.trans (congrArg some (by kernel_rfl))
 f285:=Tryd.func64.trans (congrArg some (by kernel_rfl))
 f286:=Tryd.func65.trans (congrArg some (by kernel_rfl))
 f317:=Tryd.func66.trans (congrArg some (by kernel_rfl))
 f318:=Tryd.func68.trans (congrArg some (by kernel_rfl))
 f319:=Tryd.func69.trans (congrArg some (by kernel_rfl))
 f320:=Tryd.func70.trans (congrArg some (by kernel_rfl))
 f337:=Tryd.func71.trans (congrArg some (by kernel_rfl))
 f338:=Tryd.func72.trans (congrArg some (by kernel_rfl))
 t0:=Tryd.underlying0
 a0:=Tryd.isAgg0
 z0:=Tryd.sizeOf0
 v0:=Tryd.zeroValue0
 t2:=Tryd.underlying2
 a2:=Tryd.isAgg2
 z2:=Tryd.sizeOf2
 v2:=Tryd.zeroValue2
 t3:=Tryd.underlying3
 a3:=Tryd.isAgg3
 z3:=Tryd.sizeOf3
 v3:=Tryd.zeroValue3
 t4:=Tryd.underlying4
 a4:=Tryd.isAgg4
 z4:=Tryd.sizeOf4
 v4:=Tryd.zeroValue4
 t5:=Tryd.underlying5
 a5:=Tryd.isAgg5
 z5:=Tryd.sizeOf5
 v5:=Tryd.zeroValue5
 t9:=Tryd.underlying9
 a9:=Tryd.isAgg9
 z9:=Tryd.sizeOf9
 v9:=Tryd.zeroValue9
 t20:=Tryd.underlying20
 a20:=Tryd.isAgg20
 z20:=Tryd.sizeOf20
 v20:=Tryd.zeroValue20
 t37:=Tryd.underlying71
 a37:=Tryd.isAgg71
 z37:=Tryd.sizeOf71
 v37:=Tryd.zeroValue71
 t46:=Tryd.underlying121
 a46:=Tryd.isAgg121
 z46:=Tryd.sizeOf121
 v46:=Tryd.zeroValue121
 t51:=Tryd.underlying118
 a51:=Tryd.isAgg118
 z51:=Tryd.sizeOf118
 v51:=Tryd.zeroValue118
 t53:=Tryd.underlying110
 a53:=Tryd.isAgg110
 z53:=Tryd.sizeOf110
 v53:=Tryd.zeroValue110
 t171:=Tryd.underlying109
 a171:=Tryd.isAgg109
 z171:=Tryd.sizeOf109
 v171:=Tryd.zeroValue109
 t173:=Tryd.underlying113
 a173:=Tryd.isAgg113
 z173:=Tryd.sizeOf113
 v173:=Tryd.zeroValue113
 t212:=Tryd.underlying117
 a212:=Tryd.isAgg117
 z212:=Tryd.sizeOf117
 v212:=Tryd.zeroValue117
 t213:=Tryd.underlying119
 a213:=Tryd.isAgg119
 z213:=Tryd.sizeOf119
 t232:=Tryd.underlying124
 a232:=Tryd.isAgg124
 z232:=Tryd.sizeOf124
 v232:=Tryd.zeroValue124
 t233:=Tryd.underlying125
 a233:=Tryd.isAgg125
 z233:=Tryd.sizeOf125
 v233:=Tryd.zeroValue125
 g17:=by kernel_rfl
 g18:=by kernel_rfl
 g19:=by kernel_rfl
 i0:=by kernel_rfl
 i2:=by kernel_rfl
 i3:=by kernel_rfl
 i4:=by kernel_rfl
 i5:=by kernel_rfl
 i9:=by kernel_rfl
 i20:=by kernel_rfl
 i37:=by kernel_rfl
 i46:=by kernel_rfl
 i51:=by kernel_rfl
 i53:=by kernel_rfl
 i171:=by kernel_rfl
 i173:=by kernel_rfl
 i212:=by kernel_rfl
 i232:=by kernel_rfl
 i233:=by kernel_rfl
 m17:=by kernel_rfl
 m18:=by kernel_rfl
 m19:=by kernel_rfl}
end Go.Proofs
