/-
 One contract, or else another. Conditions: none.
-/
import Derived.Shelf.Strings.OnBuilder
import Derived.Shelf.Strings.Split
import Derived.Shelf.Strings.Prefix
import Derived.Shelf.Strconv.Itoa3
import Derived.Shelf.Strconv.ErrVarAll
import Derived.Shelf.Small.Strs
import Derived.Shelf.Small.Wraps
import Derived.Test.YtdcdjjogieojhaaGreatDoorChecked
import Derived.KernelRfl
import Derived.Test.YtdcdjjogieojhaaGreatDoorKSyKo
import Derived.Test.YtdcdjjogieojhaaGreatDoorKSyPl
set_option linter.unusedVariables false
set_option linter.unusedSimpArgs false
set_option linter.unusedSectionVars false
namespace Go.Proofs.YtdcdjjogieojhaaGreatDoor
open Go Go.RowKit Go.Lib
set_option maxRecDepth 100000
def P9:Go.Shelf.Ren:=⟨fun | 171=>66 | 243=>92 | 246=>113 | 283=>140 | 284=>141 | 285=>142 | 286=>143 | 129=>138 | 317=>156 | 318=>157 | 319=>158 | 320=>159 | 337=>163 | 338=>164 | n=>n,fun | 3=>3 | 9=>9 | 2=>2 | 4=>4 | 171=>198 | 0=>0 | 53=>197 | 37=>95 | 5=>5 | 173=>200 | 212=>217 | 51=>195 | 20=>20 | 213=>218 | 46=>173 | 232=>230 | 233=>231 | n=>n,fun | 17=>5 | 18=>8 | 19=>9 | n=>n⟩
theorem TU:Go.Proofs.LaysM.n171 Tryz.prog P9 where
 mixed:=by kernel_rfl
 f129:=Tryz.func138.trans (congrArg some (by kernel_rfl))
 f171:=Tryz.func66.trans (congrArg some (by kernel_rfl))
 f243:=Tryz.func92.trans (congrArg some (by kernel_rfl))
 f246:=Tryz.func113.trans (congrArg some (by kernel_rfl))
 f283:=Tryz.func140.trans (congrArg some (by kernel_rfl))
 f284:=Tryz.func141.trans (congrArg some (by kernel_rfl))
 f285:=Tryz.func142.trans (congrArg some (by kernel_rfl))
 f286:=Tryz.func143.trans (congrArg some (by kernel_rfl))
 f317:=Tryz.func156.trans (congrArg some (by kernel_rfl))
 f318:=Tryz.func157.trans (congrArg some (by kernel_rfl))
 f319:=Tryz.func158.trans (congrArg some (by kernel_rfl))
 f320:=Tryz.func159.trans (congrArg some (by kernel_rfl))
 f337:=Tryz.func163.trans (congrArg some (by kernel_rfl))
 f338:=Tryz.func164.trans (congrArg some (by kernel_rfl))
 t0:=Tryz.underlying0
 a0:=Tryz.isAgg0
 z0:=Tryz.sizeOf0
 v0:=Tryz.zeroValue0
 t2:=Tryz.underlying2
 a2:=Tryz.isAgg2
 z2:=Tryz.sizeOf2
 v2:=Tryz.zeroValue2
 t3:=Tryz.underlying3
 a3:=Tryz.isAgg3
 z3:=Tryz.sizeOf3
 v3:=Tryz.zeroValue3
 t4:=Tryz.underlying4
 a4:=Tryz.isAgg4
 z4:=Tryz.sizeOf4
 v4:=Tryz.zeroValue4
 t5:=Tryz.underlying5
 a5:=Tryz.isAgg5
 z5:=Tryz.sizeOf5
 v5:=Tryz.zeroValue5
 t9:=Tryz.underlying9
 a9:=Tryz.isAgg9
 z9:=Tryz.sizeOf9
 v9:=Tryz.zeroValue9
 t20:=Tryz.underlying20
 a20:=Tryz.isAgg20
 z20:=Tryz.sizeOf20
 v20:=Tryz.zeroValue20
 t37:=Tryz.underlying95
 a37:=Tryz.isAgg95
 z37:=Tryz.sizeOf95
 v37:=Tryz.zeroValue95
 t46:=Tryz.underlying173
 a46:=Tryz.isAgg173
 z46:=Tryz.sizeOf173
 v46:=Tryz.zeroValue173
 t51:=Tryz.underlying195
 a51:=Tryz.isAgg195
 z51:=Tryz.sizeOf195
 v51:=Tryz.zeroValue195
 t53:=Tryz.underlying197
 a53:=Tryz.isAgg197
 z53:=Tryz.sizeOf197
 v53:=Tryz.zeroValue197
 t171:=Tryz.underlying198
 a171:=Tryz.isAgg198
 z171:=Tryz.sizeOf198
 v171:=Tryz.zeroValue198
 t173:=Tryz.underlying200
 a173:=Tryz.isAgg200
 z173:=Tryz.sizeOf200
 v173:=Tryz.zeroValue200
 t212:=Tryz.underlying217
 a212:=Tryz.isAgg217
 z212:=Tryz.sizeOf217
 v212:=Tryz.zeroValue217
 t213:=Tryz.underlying218
 a213:=Tryz.isAgg218
 z213:=Tryz.sizeOf218
 t232:=Tryz.underlying230
 a232:=Tryz.isAgg230
 z232:=Tryz.sizeOf230
 v232:=Tryz.zeroValue230
 t233:=Tryz.underlying231
 a233:=Tryz.isAgg231
 z233:=Tryz.sizeOf231
 v233:=Tryz.zeroValue231
 g17:=by kernel_rfl
 g18:=by kernel_rfl
 g19:=by kernel_rfl
 i0:=by kernel_rfl
 i2:=by kernel_rfl
 i3:=by kernel_rfl
 i4:=by kernel_rfl
 i5:=by kernel_rfl
 i9:=by kernel_rfl
 i20:=by kernel_rfl
 i37:=by kernel_rfl
 i46:=by kernel_rfl
 i51:=by kernel_rfl
 i53:=by kernel_rfl
 i171:=by kernel_rfl
 i173:=by kernel_rfl
 i212:=by kernel_rfl
 i232:=by kernel_rfl
 i233:=by kernel_rfl
 m17:=by kernel_rfl
 m18:=by kernel_rfl
 m19:=by kernel_rfl
def Gi:Go.Shelf.Ren:=⟨fun | 146=>30 | 221=>68 | 268=>94 | 138=>95 | 143=>71 | 195=>115 | 197=>116 | 218=>117 | 219=>99 | 260=>145 | 217=>103 | 225=>124 | 224=>125 | 267=>126 | 266=>127 | 314=>149 | n=>n,fun | 9=>9 | 31=>51 | 3=>3 | 4=>4 | 0=>0 | 105=>178 | 21=>21 | 5=>5 | 46=>173 | 119=>219 | 139=>222 | 138=>221 | 146=>209 | 51=>195 | n=>n,fun | 1=>2 | 3=>6 | 4=>7 | n=>n⟩
theorem Tq:Go.Proofs.Lays.n146 Tryz.prog Gi where
 mixed:=by kernel_rfl
 f138:=Tryz.func95.trans (congrArg some (by kernel_rfl))
 f143:=Tryz.func71.trans (congrArg some (by kernel_rfl))
 f146:=Tryz.func30.trans (congrArg some (by kernel_rfl))
 f195:=Tryz.func115.trans (congrArg some (by kernel_rfl))
 f197:=Tryz.func116.trans (congrArg some (by kernel_rfl))
 f217:=Tryz.func103.trans (congrArg some (by kernel_rfl))
 f218:=Tryz.func117.trans (congrArg some (by kernel_rfl))
 f219:=Tryz.func99.trans (congrArg some (by kernel_rfl))
 f221:=Tryz.func68.trans (congrArg some (by kernel_rfl))
 f224:=Tryz.func125.trans (congrArg some (by kernel_rfl))
 f225:=Tryz.func124.trans (congrArg some (by kernel_rfl))
 f260:=Tryz.func145.trans (congrArg some (by kernel_rfl))
 f266:=Tryz.func127.trans (congrArg some (by kernel_rfl))
 f267:=Tryz.func126.trans (congrArg some (by kernel_rfl))
 f268:=Tryz.func94.trans (congrArg some (by kernel_rfl))
 f314:=Tryz.func149.trans (congrArg some (by kernel_rfl))
 t0:=Tryz.underlying0
 a0:=Tryz.isAgg0
 z0:=Tryz.sizeOf0
 v0:=Tryz.zeroValue0
 t3:=Tryz.underlying3
 a3:=Tryz.isAgg3
 z3:=Tryz.sizeOf3
 v3:=Tryz.zeroValue3
 t4:=Tryz.underlying4
 a4:=Tryz.isAgg4
 z4:=Tryz.sizeOf4
 v4:=Tryz.zeroValue4
 t5:=Tryz.underlying5
 a5:=Tryz.isAgg5
 z5:=Tryz.sizeOf5
 v5:=Tryz.zeroValue5
 t9:=Tryz.underlying9
 a9:=Tryz.isAgg9
 z9:=Tryz.sizeOf9
 v9:=Tryz.zeroValue9
 t21:=Tryz.underlying21
 a21:=Tryz.isAgg21
 z21:=Tryz.sizeOf21
 v21:=Tryz.zeroValue21
 t31:=Tryz.underlying51
 a31:=Tryz.isAgg51
 z31:=Tryz.sizeOf51
 v31:=Tryz.zeroValue51
 t46:=Tryz.underlying173
 a46:=Tryz.isAgg173
 z46:=Tryz.sizeOf173
 v46:=Tryz.zeroValue173
 t51:=Tryz.underlying195
 a51:=Tryz.isAgg195
 z51:=Tryz.sizeOf195
 v51:=Tryz.zeroValue195
 t105:=Tryz.underlying178
 a105:=Tryz.isAgg178
 z105:=Tryz.sizeOf178
 v105:=Tryz.zeroValue178
 t119:=Tryz.underlying219
 a119:=Tryz.isAgg219
 z119:=Tryz.sizeOf219
 t138:=Tryz.underlying221
 a138:=Tryz.isAgg221
 z138:=Tryz.sizeOf221
 v138:=Tryz.zeroValue221
 t139:=Tryz.underlying222
 a139:=Tryz.isAgg222
 z139:=Tryz.sizeOf222
 v139:=Tryz.zeroValue222
 t146:=Tryz.underlying209
 a146:=Tryz.isAgg209
 z146:=Tryz.sizeOf209
 v146:=Tryz.zeroValue209
 g1:=by kernel_rfl
 g3:=by kernel_rfl
 g4:=by kernel_rfl
def OU:Go.Shelf.Ren:=⟨fun | 172=>69 | 244=>96 | 245=>97 | 247=>118 | 279=>119 | 280=>120 | 281=>121 | 282=>122 | 287=>146 | 316=>147 | 171=>66 | 205=>148 | 321=>160 | 322=>161 | 243=>92 | 246=>113 | 283=>140 | 284=>141 | 285=>142 | 286=>143 | 129=>138 | 317=>156 | 318=>157 | 319=>158 | 320=>159 | 337=>163 | 338=>164 | n=>n,fun | 9=>9 | 3=>3 | 75=>99 | 76=>100 | 4=>4 | 5=>5 | 167=>180 | 37=>95 | 0=>0 | 85=>181 | 2=>2 | 168=>183 | 53=>197 | 175=>203 | 46=>173 | 210=>207 | 127=>145 | 145=>226 | 143=>224 | 21=>21 | 171=>198 | 173=>200 | 212=>217 | 51=>195 | 20=>20 | 213=>218 | 232=>230 | 233=>231 | 80=>103 | n=>n,fun | 15=>3 | 16=>4 | 17=>5 | 18=>8 | 19=>9 | n=>n⟩
theorem PR:Go.Proofs.LaysC.n172 Tryz.prog OU where
 mixed:=by kernel_rfl
 f129:=Tryz.func138.trans (congrArg some (by kernel_rfl))
 f171:=Tryz.func66.trans (congrArg some (by kernel_rfl))
 f172:=Tryz.func69.trans (congrArg some (by kernel_rfl))
 f205:=Tryz.func148.trans (congrArg some (by kernel_rfl))
 f243:=Tryz.func92.trans (congrArg some (by kernel_rfl))
 f244:=Tryz.func96.trans (congrArg some (by kernel_rfl))
 f245:=Tryz.func97.trans (congrArg some (by kernel_rfl))
 f246:=Tryz.func113.trans (congrArg some (by kernel_rfl))
 f247:=Tryz.func118.trans (congrArg some (by kernel_rfl))
 f279:=Tryz.func119.trans (congrArg some (by kernel_rfl))
 f280:=Tryz.func120.trans (congrArg some (by kernel_rfl))
 f281:=Tryz.func121.trans (congrArg some (by kernel_rfl))
 f282:=Tryz.func122.trans (congrArg some (by kernel_rfl))
 f283:=Tryz.func140.trans (congrArg some (by kernel_rfl))
 f284:=Tryz.func141.trans (congrArg some (by kernel_rfl))
 f285:=Tryz.func142.trans (congrArg some (by kernel_rfl))
 f286:=Tryz.func143.trans (congrArg some (by kernel_rfl))
 f287:=Tryz.func146.trans (congrArg some (by kernel_rfl))
 f316:=Tryz.func147.trans (congrArg some (by kernel_rfl))
 f317:=Tryz.func156.trans (congrArg some (by kernel_rfl))
 f318:=Tryz.func157.trans (congrArg some (by kernel_rfl))
 f319:=Tryz.func158.trans (congrArg some (by kernel_rfl))
 f320:=Tryz.func159.trans (congrArg some (by kernel_rfl))
 f321:=Tryz.func160.trans (congrArg some (by kernel_rfl))
 f322:=Tryz.func161.trans (congrArg some (by kernel_rfl))
 f337:=Tryz.func163.trans (congrArg some (by kernel_rfl))
 f338:=Tryz.func164.trans (congrArg some (by kernel_rfl))
 t0:=Tryz.underlying0
 a0:=Tryz.isAgg0
 z0:=Tryz.sizeOf0
 v0:=Tryz.zeroValue0
 t2:=Tryz.underlying2
 a2:=Tryz.isAgg2
 z2:=Tryz.sizeOf2
 v2:=Tryz.zeroValue2
 t3:=Tryz.underlying3
 a3:=Tryz.isAgg3
 z3:=Tryz.sizeOf3
 v3:=Tryz.zeroValue3
 t4:=Tryz.underlying4
 a4:=Tryz.isAgg4
 z4:=Tryz.sizeOf4
 v4:=Tryz.zeroValue4
 t5:=Tryz.underlying5
 a5:=Tryz.isAgg5
 z5:=Tryz.sizeOf5
 v5:=Tryz.zeroValue5
 t9:=Tryz.underlying9
 a9:=Tryz.isAgg9
 z9:=Tryz.sizeOf9
 v9:=Tryz.zeroValue9
 t20:=Tryz.underlying20
 a20:=Tryz.isAgg20
 z20:=Tryz.sizeOf20
 v20:=Tryz.zeroValue20
 t21:=Tryz.underlying21
 a21:=Tryz.isAgg21
 z21:=Tryz.sizeOf21
 v21:=Tryz.zeroValue21
 t37:=Tryz.underlying95
 a37:=Tryz.isAgg95
 z37:=Tryz.sizeOf95
 v37:=Tryz.zeroValue95
 t46:=Tryz.underlying173
 a46:=Tryz.isAgg173
 z46:=Tryz.sizeOf173
 v46:=Tryz.zeroValue173
 t51:=Tryz.underlying195
 a51:=Tryz.isAgg195
 z51:=Tryz.sizeOf195
 v51:=Tryz.zeroValue195
 t53:=Tryz.underlying197
 a53:=Tryz.isAgg197
 z53:=Tryz.sizeOf197
 v53:=Tryz.zeroValue197
 t75:=Tryz.underlying99
 a75:=Tryz.isAgg99
 z75:=Tryz.sizeOf99
 v75:=Tryz.zeroValue99
 t76:=Tryz.underlying100
 a76:=Tryz.isAgg100
 z76:=Tryz.sizeOf100
 v76:=Tryz.zeroValue100
 t85:=Tryz.underlying181
 a85:=Tryz.isAgg181
 z85:=Tryz.sizeOf181
 v85:=Tryz.zeroValue181
 t127:=Tryz.underlying145
 a127:=Tryz.isAgg145
 z127:=Tryz.sizeOf145
 v127:=Tryz.zeroValue145
 t143:=Tryz.underlying224
 a143:=Tryz.isAgg224
 z143:=Tryz.sizeOf224
 v143:=Tryz.zeroValue224
 t145:=Tryz.underlying226
 a145:=Tryz.isAgg226
 z145:=Tryz.sizeOf226
 v145:=Tryz.zeroValue226
 t167:=Tryz.underlying180
 a167:=Tryz.isAgg180
 z167:=Tryz.sizeOf180
 v167:=Tryz.zeroValue180
 t168:=Tryz.underlying183
 a168:=Tryz.isAgg183
 z168:=Tryz.sizeOf183
 v168:=Tryz.zeroValue183
 t171:=Tryz.underlying198
 a171:=Tryz.isAgg198
 z171:=Tryz.sizeOf198
 v171:=Tryz.zeroValue198
 t173:=Tryz.underlying200
 a173:=Tryz.isAgg200
 z173:=Tryz.sizeOf200
 v173:=Tryz.zeroValue200
 t175:=Tryz.underlying203
 a175:=Tryz.isAgg203
 z175:=Tryz.sizeOf203
 v175:=Tryz.zeroValue203
 t210:=Tryz.underlying207
 a210:=Tryz.isAgg207
 z210:=Tryz.sizeOf207
 v210:=Tryz.zeroValue207
 t212:=Tryz.underlying217
 a212:=Tryz.isAgg217
 z212:=Tryz.sizeOf217
 v212:=Tryz.zeroValue217
 t213:=Tryz.underlying218
 a213:=Tryz.isAgg218
 z213:=Tryz.sizeOf218
 t232:=Tryz.underlying230
 a232:=Tryz.isAgg230
 z232:=Tryz.sizeOf230
 v232:=Tryz.zeroValue230
 t233:=Tryz.underlying231
 a233:=Tryz.isAgg231
 z233:=Tryz.sizeOf231
 v233:=Tryz.zeroValue231
 g15:=by kernel_rfl
 g16:=by kernel_rfl
 g17:=by kernel_rfl
 g18:=by kernel_rfl
 g19:=by kernel_rfl
 t80:=Tryz.underlying103
 a80:=Tryz.isAgg103
 z80:=Tryz.sizeOf103
 v80:=Tryz.zeroValue103
 i0:=by kernel_rfl
 i2:=by kernel_rfl
 i3:=by kernel_rfl
 i4:=by kernel_rfl
 i5:=by kernel_rfl
 i9:=by kernel_rfl
 i20:=by kernel_rfl
 i21:=by kernel_rfl
 i37:=by kernel_rfl
 i46:=by kernel_rfl
 i51:=by kernel_rfl
 i53:=by kernel_rfl
 i75:=by kernel_rfl
 i76:=by kernel_rfl
 i80:=by kernel_rfl
 i85:=by kernel_rfl
 i127:=by kernel_rfl
 i143:=by kernel_rfl
 i145:=by kernel_rfl
 i167:=by kernel_rfl
 i168:=by kernel_rfl
 i171:=by kernel_rfl
 i173:=by kernel_rfl
 i175:=by kernel_rfl
 i210:=by kernel_rfl
 i212:=by kernel_rfl
 i232:=by kernel_rfl
 i233:=by kernel_rfl
 m15:=by kernel_rfl
 m16:=by kernel_rfl
 m17:=by kernel_rfl
 m18:=by kernel_rfl
 m19:=by kernel_rfl
 c0:=by kernel_rfl
 c2:=by kernel_rfl
 c3:=by kernel_rfl
 c4:=by kernel_rfl
 c5:=by kernel_rfl
 c9:=by kernel_rfl
 c20:=by kernel_rfl
 c21:=by kernel_rfl
 c37:=by kernel_rfl
 c46:=by kernel_rfl
 c51:=by kernel_rfl
 c53:=by kernel_rfl
 c75:=by kernel_rfl
 c76:=by kernel_rfl
 c80:=by kernel_rfl
 c85:=by kernel_rfl
 c127:=by kernel_rfl
 c143:=by kernel_rfl
 c145:=by kernel_rfl
 c167:=by kernel_rfl
 c168:=by kernel_rfl
 c171:=by kernel_rfl
 c173:=by kernel_rfl
 c175:=by kernel_rfl
 c210:=by kernel_rfl
 c212:=by kernel_rfl
 c213:=by kernel_rfl
 c232:=by kernel_rfl
 c233:=by kernel_rfl
def Q9:Go.Shelf.Ren:=⟨fun | 104=>52 | 211=>80 | 207=>104 | n=>n,fun | 9=>9 | 4=>4 | 24=>107 | 3=>3 | n=>n,fun | n=>n⟩
theorem Uc:Go.Proofs.Lays.n104 Tryz.prog Q9 where
 mixed:=by kernel_rfl
 f104:=Tryz.func52.trans (congrArg some (by kernel_rfl))
 f207:=Tryz.func104.trans (congrArg some (by kernel_rfl))
 f211:=Tryz.func80.trans (congrArg some (by kernel_rfl))
 t3:=Tryz.underlying3
 a3:=Tryz.isAgg3
 z3:=Tryz.sizeOf3
 v3:=Tryz.zeroValue3
 t4:=Tryz.underlying4
 a4:=Tryz.isAgg4
 z4:=Tryz.sizeOf4
 v4:=Tryz.zeroValue4
 t9:=Tryz.underlying9
 a9:=Tryz.isAgg9
 z9:=Tryz.sizeOf9
 v9:=Tryz.zeroValue9
 t24:=Tryz.underlying107
 a24:=Tryz.isAgg107
 z24:=Tryz.sizeOf107
 v24:=Tryz.zeroValue107
def PG:Go.Shelf.Ren:=⟨fun | 101=>70 | 208=>98 | 206=>123 | n=>n,fun | 9=>9 | 4=>4 | 3=>3 | n=>n,fun | n=>n⟩
theorem U7:Go.Proofs.Lays.n101 Tryz.prog PG where
 mixed:=by kernel_rfl
 f101:=Tryz.func70.trans (congrArg some (by kernel_rfl))
 f206:=Tryz.func123.trans (congrArg some (by kernel_rfl))
 f208:=Tryz.func98.trans (congrArg some (by kernel_rfl))
 t3:=Tryz.underlying3
 a3:=Tryz.isAgg3
 z3:=Tryz.sizeOf3
 v3:=Tryz.zeroValue3
 t4:=Tryz.underlying4
 a4:=Tryz.isAgg4
 z4:=Tryz.sizeOf4
 v4:=Tryz.zeroValue4
 t9:=Tryz.underlying9
 a9:=Tryz.isAgg9
 z9:=Tryz.sizeOf9
 v9:=Tryz.zeroValue9
def Ql:Go.Shelf.Ren:=⟨fun | 137=>79 | 217=>103 | 266=>127 | n=>n,fun | 9=>9 | 5=>5 | 3=>3 | n=>n,fun | n=>n⟩
theorem Uj:Go.Proofs.Lays.n137 Tryz.prog Ql where
 mixed:=by kernel_rfl
 f137:=Tryz.func79.trans (congrArg some (by kernel_rfl))
 f217:=Tryz.func103.trans (congrArg some (by kernel_rfl))
 f266:=Tryz.func127.trans (congrArg some (by kernel_rfl))
 t3:=Tryz.underlying3
 a3:=Tryz.isAgg3
 z3:=Tryz.sizeOf3
 v3:=Tryz.zeroValue3
 t5:=Tryz.underlying5
 a5:=Tryz.isAgg5
 z5:=Tryz.sizeOf5
 v5:=Tryz.zeroValue5
 t9:=Tryz.underlying9
 a9:=Tryz.isAgg9
 z9:=Tryz.sizeOf9
 v9:=Tryz.zeroValue9
def FK:Go.Shelf.Ren:=⟨fun | 156=>67 | 165=>93 | 166=>43 | 169=>44 | 240=>73 | 241=>114 | 276=>100 | 277=>144 | n=>n,fun | 31=>51 | 9=>9 | 3=>3 | 4=>4 | 0=>0 | 20=>20 | 72=>97 | 76=>100 | 70=>94 | 37=>95 | 75=>99 | 127=>145 | 164=>166 | 5=>5 | 80=>103 | n=>n,fun | n=>n⟩
theorem Qs:Go.Proofs.Lays.n156 Tryz.prog FK where
 mixed:=by kernel_rfl
 f156:=Tryz.func67.trans (congrArg some (by kernel_rfl))
 f165:=Tryz.func93.trans (congrArg some (by kernel_rfl))
 f166:=Tryz.func43.trans (congrArg some (by kernel_rfl))
 f169:=Tryz.func44.trans (congrArg some (by kernel_rfl))
 f240:=Tryz.func73.trans (congrArg some (by kernel_rfl))
 f241:=Tryz.func114.trans (congrArg some (by kernel_rfl))
 f276:=Tryz.func100.trans (congrArg some (by kernel_rfl))
 f277:=Tryz.func144.trans (congrArg some (by kernel_rfl))
 t0:=Tryz.underlying0
 a0:=Tryz.isAgg0
 z0:=Tryz.sizeOf0
 v0:=Tryz.zeroValue0
 t3:=Tryz.underlying3
 a3:=Tryz.isAgg3
 z3:=Tryz.sizeOf3
 v3:=Tryz.zeroValue3
 t4:=Tryz.underlying4
 a4:=Tryz.isAgg4
 z4:=Tryz.sizeOf4
 v4:=Tryz.zeroValue4
 t9:=Tryz.underlying9
 a9:=Tryz.isAgg9
 z9:=Tryz.sizeOf9
 v9:=Tryz.zeroValue9
 t20:=Tryz.underlying20
 a20:=Tryz.isAgg20
 z20:=Tryz.sizeOf20
 v20:=Tryz.zeroValue20
 t31:=Tryz.underlying51
 a31:=Tryz.isAgg51
 z31:=Tryz.sizeOf51
 v31:=Tryz.zeroValue51
 t37:=Tryz.underlying95
 a37:=Tryz.isAgg95
 z37:=Tryz.sizeOf95
 v37:=Tryz.zeroValue95
 t70:=Tryz.underlying94
 a70:=Tryz.isAgg94
 z70:=Tryz.sizeOf94
 v70:=Tryz.zeroValue94
 t72:=Tryz.underlying97
 a72:=Tryz.isAgg97
 z72:=Tryz.sizeOf97
 v72:=Tryz.zeroValue97
 t75:=Tryz.underlying99
 a75:=Tryz.isAgg99
 z75:=Tryz.sizeOf99
 v75:=Tryz.zeroValue99
 t76:=Tryz.underlying100
 a76:=Tryz.isAgg100
 z76:=Tryz.sizeOf100
 v76:=Tryz.zeroValue100
 t127:=Tryz.underlying145
 a127:=Tryz.isAgg145
 z127:=Tryz.sizeOf145
 v127:=Tryz.zeroValue145
 t164:=Tryz.underlying166
 a164:=Tryz.isAgg166
 z164:=Tryz.sizeOf166
 v164:=Tryz.zeroValue166
theorem Ng:Go.Proofs.Builder.Extra Tryz.prog FK where
 sizeBuilder:=by kernel_rfl
 liesBuilder:=by kernel_rfl
 t5:=Tryz.underlying5
 a5:=Tryz.isAgg5
 z5:=Tryz.sizeOf5
 v5:=Tryz.zeroValue5
 infoByte:=by kernel_rfl
 cellsByte:=by kernel_rfl
 sizeByte:=by kernel_rfl
 neB5:=by decide
end Go.Proofs.YtdcdjjogieojhaaGreatDoor
namespace Go.Proofs.YtdcdjjogieojhaaGreatDoor
open Go Go.Sy
set_option maxRecDepth 100000
attribute [local instance 3000] Go.Sy.G2
theorem Mb:Lib.pow10Tab.map (fun z=>Value.int .u64 z)=QR:=by
 unfold Lib.pow10Tab QR
 rw [List.map_map];rfl
theorem Tt{w:World}(h:PvK w):Lib.TabIs Tryz.prog w "internal/strconv.uint64pow10" .u64 Lib.pow10Tab:=by
 obtain ⟨t,z,h⟩:=h.p10
 unfold Lib.TabIs World.var?
 rw [show Tryz.prog.globalNamed "internal/strconv.uint64pow10"=some 5 by kernel_rfl,Mb]
 simp only [Option.bind_some,h]
theorem TM{w:World}(h:PvK w):∃ tp p,w.var? Tryz.prog "strconv.ErrSyntax"=some #[.iface tp p]:=by
 obtain ⟨a,b,t,z,h⟩:=h.es
 refine ⟨a,b,?_⟩
 unfold World.var?
 rw [show Tryz.prog.globalNamed "strconv.ErrSyntax"=some 3 by kernel_rfl]
 simp only [Option.bind_some,h]
theorem TL{w:World}(h:PvK w):∃ tp p,w.var? Tryz.prog "strconv.ErrRange"=some #[.iface tp p]:=by
 obtain ⟨a,b,t,z,h⟩:=h.er
 refine ⟨a,b,?_⟩
 unfold World.var?
 rw [show Tryz.prog.globalNamed "strconv.ErrRange"=some 4 by kernel_rfl]
 simp only [Option.bind_some,h]
theorem Nd(w:World)(k:Nat)(os:Array Obj):RowKit.Below w.heap.size w (Go.Sort.grow (w.drewN k) os) :=
 ⟨rfl,rfl,rfl,by simp [Go.Sort.grow],fun b hb=>by
  show (w.heap ++ os)[b]? = w.heap[b]?
  rw [Array.getElem?_append_left hb]⟩
theorem Cg{O:Env}{off:Nat}{v:SV}{ns:List Bool}{w w':World}{x:Value}(hx:v.den O x)(hB:RowKit.Below w.heap.size w w'):A5 O O off { v:=v,need:=ns } w w' x :=
 ⟨hx,Ext.refl _,fun _ _=>rfl,hB.os,hB.tape,hB.output,hB.size,fun b hb _=>hB.block b hb,⟨fun _ _ _ h=>.inl h,fun _ _ h=>.inl h,rfl⟩,fun u hu=>by simp at hu,fun j b hj=>by simp at hj,fun j j' b b' m m' hne hj=>by simp at hj⟩
theorem Lw(w:World)(e:Nat)(s:BA):RowKit.Below w.heap.size w (Lib.bytesWorld w e s) :=
 ⟨rfl,rfl,rfl,by rw [Lib.bytesWorld_size];omega,fun b hb=>Lib.bytesWorld_at_old w e s b hb⟩
end Go.Proofs.YtdcdjjogieojhaaGreatDoor
namespace Go.Sy
open Go
variable [AO]
def orC(a b:Ctr):Ctr:=fun off mem args=>match a off mem args with | some r=>some r | none=>b off mem args
theorem QN{P:Program}{a b:Ctr}{f:FuncId}(ha:Ag P a f)(hb:Ag P b f):Ag P (orC a b) f:=by
 refine ⟨ha.1,fun B M O mem off args r hr=>?_⟩
 unfold orC at hr
 split at hr
 .rename_i h;cases hr;exact ha.2 B M O mem off args _ h
 .exact hb.2 B M O mem off args r hr
end Go.Sy
