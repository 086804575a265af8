/-
  strconv.FormatInt: the kit's dM at this program.
-/
import Derived.Shelf.LaysM
import Derived.Shelf.Strconv.Itoa4
import Derived.Shelf.LaysC
import Derived.Test.YtaobkpnecfcefaaDoorProg
namespace Go.Proofs
open Go.Shelf
def Tryd.H2:Go.Shelf.Ren:=⟨fun | 173=>104 | 246=>115 | 283=>118 | 284=>119 | 285=>120 | 286=>121 | 129=>124 | 317=>123 | 318=>125 | 319=>126 | 320=>127 | 337=>128 | 338=>129 | n=>n,fun | 2=>2 | 3=>3 | 9=>9 | 4=>4 | 171=>145 | 0=>0 | 53=>125 | 37=>43 | 5=>5 | 173=>148 | 212=>154 | 51=>155 | 20=>20 | 213=>156 | 46=>128 | 232=>159 | 233=>160 | n=>n,fun | 17=>2 | 18=>3 | 19=>4 | n=>n⟩
theorem Tryd.PV:Go.Proofs.LaysM.n173 Tryd.prog Tryd.H2:={
 mixed:=by kernel_rfl
 f129:=Tryd.func124.trans (congrArg some (by kernel_rfl))
 f173:=Tryd.func104.trans (congrArg some (by kernel_rfl))
 f246:=Tryd.func115.trans (congrArg some (by kernel_rfl))
 f283:=Tryd.func118.trans (congrArg some (by kernel_rfl))
 f284:=Tryd.func119.trans (congrArg some (by kernel_rfl))
 f285:=Tryd.func120.trans (congrArg some (by kernel_rfl))
 f286:=Tryd.func121.trans (congrArg some (by kernel_rfl))
 f317:=Tryd.func123.trans (congrArg some (by kernel_rfl))
 f318:=Tryd.func125.trans (congrArg some (by kernel_rfl))
 f319:=Tryd.func126.trans (congrArg some (by kernel_rfl))
 f320:=Tryd.func127.trans (congrArg some (by kernel_rfl))
 f337:=Tryd.func128.trans (congrArg some (by kernel_rfl))
 f338:=Tryd.func129.trans (congrArg some (by kernel_rfl))
 t0:=Tryd.underlying0
 a0:=Tryd.isAgg0
 z0:=Tryd.sizeOf0
 v0:=Tryd.zeroValue0
 t2:=Tryd.underlying2
 a2:=Tryd.isAgg2
 z2:=Tryd.sizeOf2
 v2:=Tryd.zeroValue2
 t3:=Tryd.underlying3
 a3:=Tryd.isAgg3
 z3:=Tryd.sizeOf3
 v3:=Tryd.zeroValue3
 t4:=Tryd.underlying4
 a4:=Tryd.isAgg4
 z4:=Tryd.sizeOf4
 v4:=Tryd.zeroValue4
 t5:=Tryd.underlying5
 a5:=Tryd.isAgg5
 z5:=Tryd.sizeOf5
 v5:=Tryd.zeroValue5
 t9:=Tryd.underlying9
 a9:=Tryd.isAgg9
 z9:=Tryd.sizeOf9
 v9:=Tryd.zeroValue9
 t20:=Tryd.underlying20
 a20:=Tryd.isAgg20
 z20:=Tryd.sizeOf20
 v20:=Tryd.zeroValue20
 t37:=Tryd.underlying43
 a37:=Tryd.isAgg43
 z37:=Tryd.sizeOf43
 v37:=Tryd.zeroValue43
 t46:=Tryd.underlying128
 a46:=Tryd.isAgg128
 z46:=Tryd.sizeOf128
 v46:=Tryd.zeroValue128
 t51:=Tryd.underlying155
 a51:=Tryd.isAgg155
 z51:=Tryd.sizeOf155
 v51:=Tryd.zeroValue155
 t53:=Tryd.underlying125
 a53:=Tryd.isAgg125
 z53:=Tryd.sizeOf125
 v53:=Tryd.zeroValue125
 t171:=Tryd.underlying145
 a171:=Tryd.isAgg145
 z171:=Tryd.sizeOf145
 v171:=Tryd.zeroValue145
 t173:=Tryd.underlying148
 a173:=Tryd.isAgg148
 z173:=Tryd.sizeOf148
 v173:=Tryd.zeroValue148
 t212:=Tryd.underlying154
 a212:=Tryd.isAgg154
 z212:=Tryd.sizeOf154
 v212:=Tryd.zeroValue154
 t213:=Tryd.underlying156
 a213:=Tryd.isAgg156
 z213:=Tryd.sizeOf156
 t232:=Tryd.underlying159
 a232:=Tryd.isAgg159
 z232:=Tryd.sizeOf159
 v232:=Tryd.zeroValue159
 t233:=Tryd.underlying160
 a233:=Tryd.isAgg160
 z233:=Tryd.sizeOf160
 v233:=Tryd.zeroValue160
 g17:=by kernel_rfl
 g18:=by kernel_rfl
 g19:=by kernel_rfl
 i0:=by kernel_rfl
 i2:=by kernel_rfl
 i3:=by kernel_rfl
 i4:=by kernel_rfl
 i5:=by kernel_rfl
 i9:=by kernel_rfl
 i20:=by kernel_rfl
 i37:=by kernel_rfl
 i46:=by kernel_rfl
 i51:=by kernel_rfl
 i53:=by kernel_rfl
 i171:=by kernel_rfl
 i173:=by kernel_rfl
 i212:=by kernel_rfl
 i232:=by kernel_rfl
 i233:=by kernel_rfl
 m17:=by kernel_rfl
 m18:=by kernel_rfl
 m19:=by kernel_rfl}
end Go.Proofs
