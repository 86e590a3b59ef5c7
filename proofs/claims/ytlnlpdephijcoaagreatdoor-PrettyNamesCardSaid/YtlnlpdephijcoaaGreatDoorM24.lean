/- Part 24 of what the proof rests on. -/
import Derived.Shelf.Strings.Builder1
import Derived.Shelf.Strings.Builder2
import Derived.Shelf.Strings.OnBuilder
import Derived.Shelf.Small.Strs
import Derived.Shelf.Strings.BuilderF
import Derived.Shelf.Strings.BuilderK
import Derived.Shelf.Strconv.Atoi
import Derived.Shelf.Strconv.Itoa0
import Derived.Shelf.Strconv.Itoa1
import Derived.Shelf.LaysM
import Derived.Shelf.Strconv.Itoa2
import Derived.Shelf.Strconv.Itoa3
import Derived.Shelf.Strconv.AtoiErrFast
import Derived.Shelf.Strconv.ParseIntEmpty
import Derived.Shelf.Strconv.AtoiFail
import Derived.Shelf.Strconv.Clone
import Derived.Shelf.Strconv.SyntaxError
import Derived.Shelf.LaysC
import Derived.Shelf.Strconv.ToError
import Derived.Shelf.Strconv.Lower
import Derived.Shelf.Strconv.ParseUint10
import Derived.Shelf.Strconv.ParseUint10Empty
import Derived.Shelf.Strconv.ParseUint10Any
import Derived.Shelf.Strconv.ParseInt10
import Derived.Shelf.Strconv.AtoiLong
import Derived.Shelf.Strconv.AtoiInnerAll
import Derived.Shelf.Strconv.RangeError
import Derived.Shelf.Strconv.ToErrorRange
import Derived.Shelf.Strconv.AtoiAll
import Derived.Shelf.Strconv.ErrVarAll
import Derived.Shelf.Strings.Search1
import Derived.Shelf.Slices.Turned
import Derived.Ground.Names2Prog
import Derived.Shelf.Slices.ReverseS
import Derived.Shelf.Slices.Clone
import Derived.Shelf.Slices.Cells
import Derived.Ground.SlgmProg
import Derived.Shelf.SortM.SortNone
import Derived.Test.YtlnlpdephijcoaaGreatDoorProg
import Derived.Test.YtlnlpdephijcoaaGreatDoorM11
set_option linter.unusedSimpArgs false
set_option linter.unusedVariables false
namespace Go.Proofs
open Go.Shelf
def Tryz.lays156_ren:Go.Shelf.Ren:=⟨fun | 156=>86 | 165=>113 | 166=>114 | 169=>115 | 240=>131 | 241=>132 | 276=>160 | 277=>161 | n=>n,fun | 31=>22 | 9=>9 | 3=>3 | 4=>4 | 0=>0 | 20=>20 | 72=>197 | 76=>164 | 70=>195 | 37=>161 | 75=>163 | 127=>216 | 164=>243 | 5=>5 | 80=>198 | n=>n,fun | n=>n⟩
theorem Tryz.lays156 : Go.Proofs.Lays.n156 Tryz.prog Tryz.lays156_ren := {
  mixed:=by kernel_rfl
  f156:=Tryz.func86.trans (congrArg some (by kernel_rfl))
  f165:=Tryz.func113.trans (congrArg some (by kernel_rfl))
  f166:=Tryz.func114.trans (congrArg some (by kernel_rfl))
  f169:=Tryz.func115.trans (congrArg some (by kernel_rfl))
  f240:=Tryz.func131.trans (congrArg some (by kernel_rfl))
  f241:=Tryz.func132.trans (congrArg some (by kernel_rfl))
  f276:=Tryz.func160.trans (congrArg some (by kernel_rfl))
  f277:=Tryz.func161.trans (congrArg some (by kernel_rfl))
  t0:=Tryz.underlying0
  a0:=Tryz.isAgg0
  z0:=Tryz.sizeOf0
  v0:=Tryz.zeroValue0
  t3:=Tryz.underlying3
  a3:=Tryz.isAgg3
  z3:=Tryz.sizeOf3
  v3:=Tryz.zeroValue3
  t4:=Tryz.underlying4
  a4:=Tryz.isAgg4
  z4:=Tryz.sizeOf4
  v4:=Tryz.zeroValue4
  t9:=Tryz.underlying9
  a9:=Tryz.isAgg9
  z9:=Tryz.sizeOf9
  v9:=Tryz.zeroValue9
  t20:=Tryz.underlying20
  a20:=Tryz.isAgg20
  z20:=Tryz.sizeOf20
  v20:=Tryz.zeroValue20
  t31:=Tryz.underlying22
  a31:=Tryz.isAgg22
  z31:=Tryz.sizeOf22
  v31:=Tryz.zeroValue22
  t37:=Tryz.underlying161
  a37:=Tryz.isAgg161
  z37:=Tryz.sizeOf161
  v37:=Tryz.zeroValue161
  t70:=Tryz.underlying195
  a70:=Tryz.isAgg195
  z70:=Tryz.sizeOf195
  v70:=Tryz.zeroValue195
  t72:=Tryz.underlying197
  a72:=Tryz.isAgg197
  z72:=Tryz.sizeOf197
  v72:=Tryz.zeroValue197
  t75:=Tryz.underlying163
  a75:=Tryz.isAgg163
  z75:=Tryz.sizeOf163
  v75:=Tryz.zeroValue163
  t76:=Tryz.underlying164
  a76:=Tryz.isAgg164
  z76:=Tryz.sizeOf164
  v76:=Tryz.zeroValue164
  t127:=Tryz.underlying216
  a127:=Tryz.isAgg216
  z127:=Tryz.sizeOf216
  v127:=Tryz.zeroValue216
  t164:=Tryz.underlying243
  a164:=Tryz.isAgg243
  z164:=Tryz.sizeOf243
  v164:=Tryz.zeroValue243 }
theorem Tryz.Builder_Extra_156 : Builder.Extra Tryz.prog Tryz.lays156_ren := {
  sizeBuilder:=by kernel_rfl
  liesBuilder:=by kernel_rfl
  t5:=Tryz.underlying5
  a5:=Tryz.isAgg5
  z5:=Tryz.sizeOf5
  v5:=Tryz.zeroValue5
  infoByte:=by kernel_rfl
  cellsByte:=by kernel_rfl
  sizeByte:=by kernel_rfl
  neB5:=by decide }
open Go.RowKit in
theorem Tryz.strings_Join(bk o c:Nat)(xs:List ByteArray)(sep:ByteArray)(w:World)(hcells:∀(j:Nat) x,xs[j]? = some x→w.cell? ⟨bk,o+j,none⟩=some (.string x))(hbk:bk < w.heap.size)(hN:xs.length≤140737488355328)(hcap:xs.length≤c)(hlen:(Lib.join (xs.map (·.data.toList)) sep.data.toList).length≤140737488355328) :
 Calls Tryz.prog 86 #[.slice (some ⟨bk,o,none⟩) xs.length c,.string sep] w fun e w'=>e = .returned (.string ⟨(Lib.join (xs.map (·.data.toList)) sep.data.toList).toArray⟩)∧Below w.heap.size w w':=Any.strings_Join Tryz.lays156 Tryz.Builder_Extra_156 bk o c xs sep w hcells hbk hN hcap hlen
def Tryz.laysM171_ren:Go.Shelf.Ren:=⟨fun | 171=>77 | 243=>106 | 246=>126 | 283=>155 | 284=>156 | 285=>157 | 286=>158 | 129=>144 | 317=>174 | 318=>175 | 319=>176 | 320=>177 | 337=>184 | 338=>185 | n=>n,fun | 3=>3 | 9=>9 | 2=>2 | 4=>4 | 171=>238 | 0=>0 | 53=>229 | 37=>161 | 5=>5 | 173=>240 | 212=>259 | 51=>227 | 20=>20 | 213=>260 | 46=>203 | 232=>269 | 233=>270 | n=>n,fun | 17=>3 | 18=>5 | 19=>6 | n=>n⟩
theorem Tryz.laysM171 : Go.Proofs.LaysM.n171 Tryz.prog Tryz.laysM171_ren := {
  mixed:=by kernel_rfl
  f129:=Tryz.func144.trans (congrArg some (by kernel_rfl))
  f171:=Tryz.func77.trans (congrArg some (by kernel_rfl))
  f243:=Tryz.func106.trans (congrArg some (by kernel_rfl))
  f246:=Tryz.func126.trans (congrArg some (by kernel_rfl))
  f283:=Tryz.func155.trans (congrArg some (by kernel_rfl))
  f284:=Tryz.func156.trans (congrArg some (by kernel_rfl))
  f285:=Tryz.func157.trans (congrArg some (by kernel_rfl))
  f286:=Tryz.func158.trans (congrArg some (by kernel_rfl))
  f317:=Tryz.func174.trans (congrArg some (by kernel_rfl))
  f318:=Tryz.func175.trans (congrArg some (by kernel_rfl))
  f319:=Tryz.func176.trans (congrArg some (by kernel_rfl))
  f320:=Tryz.func177.trans (congrArg some (by kernel_rfl))
  f337:=Tryz.func184.trans (congrArg some (by kernel_rfl))
  f338:=Tryz.func185.trans (congrArg some (by kernel_rfl))
  t0:=Tryz.underlying0
  a0:=Tryz.isAgg0
  z0:=Tryz.sizeOf0
  v0:=Tryz.zeroValue0
  t2:=Tryz.underlying2
  a2:=Tryz.isAgg2
  z2:=Tryz.sizeOf2
  v2:=Tryz.zeroValue2
  t3:=Tryz.underlying3
  a3:=Tryz.isAgg3
  z3:=Tryz.sizeOf3
  v3:=Tryz.zeroValue3
  t4:=Tryz.underlying4
  a4:=Tryz.isAgg4
  z4:=Tryz.sizeOf4
  v4:=Tryz.zeroValue4
  t5:=Tryz.underlying5
  a5:=Tryz.isAgg5
  z5:=Tryz.sizeOf5
  v5:=Tryz.zeroValue5
  t9:=Tryz.underlying9
  a9:=Tryz.isAgg9
  z9:=Tryz.sizeOf9
  v9:=Tryz.zeroValue9
  t20:=Tryz.underlying20
  a20:=Tryz.isAgg20
  z20:=Tryz.sizeOf20
  v20:=Tryz.zeroValue20
  t37:=Tryz.underlying161
  a37:=Tryz.isAgg161
  z37:=Tryz.sizeOf161
  v37:=Tryz.zeroValue161
  t46:=Tryz.underlying203
  a46:=Tryz.isAgg203
  z46:=Tryz.sizeOf203
  v46:=Tryz.zeroValue203
  t51:=Tryz.underlying227
  a51:=Tryz.isAgg227
  z51:=Tryz.sizeOf227
  v51:=Tryz.zeroValue227
  t53:=Tryz.underlying229
  a53:=Tryz.isAgg229
  z53:=Tryz.sizeOf229
  v53:=Tryz.zeroValue229
  t171:=Tryz.underlying238
  a171:=Tryz.isAgg238
  z171:=Tryz.sizeOf238
  v171:=Tryz.zeroValue238
  t173:=Tryz.underlying240
  a173:=Tryz.isAgg240
  z173:=Tryz.sizeOf240
  v173:=Tryz.zeroValue240
  t212:=Tryz.underlying259
  a212:=Tryz.isAgg259
  z212:=Tryz.sizeOf259
  v212:=Tryz.zeroValue259
  t213:=Tryz.underlying260
  a213:=Tryz.isAgg260
  z213:=Tryz.sizeOf260
  t232:=Tryz.underlying269
  a232:=Tryz.isAgg269
  z232:=Tryz.sizeOf269
  v232:=Tryz.zeroValue269
  t233:=Tryz.underlying270
  a233:=Tryz.isAgg270
  z233:=Tryz.sizeOf270
  v233:=Tryz.zeroValue270
  g17:=by kernel_rfl
  g18:=by kernel_rfl
  g19:=by kernel_rfl
  i0:=by kernel_rfl
  i2:=by kernel_rfl
  i3:=by kernel_rfl
  i4:=by kernel_rfl
  i5:=by kernel_rfl
  i9:=by kernel_rfl
  i20:=by kernel_rfl
  i37:=by kernel_rfl
  i46:=by kernel_rfl
  i51:=by kernel_rfl
  i53:=by kernel_rfl
  i171:=by kernel_rfl
  i173:=by kernel_rfl
  i212:=by kernel_rfl
  i232:=by kernel_rfl
  i233:=by kernel_rfl
  m17:=by kernel_rfl
  m18:=by kernel_rfl
  m19:=by kernel_rfl }
open Go.RowKit Go.Sort Go.Lib in
theorem Tryz.strconv_Itoa (n : Int) (h0 : -9223372036854775808 ≤ n) (h1 : n ≤ 9223372036854775807) (w : World) (htab : Lib.TabIs Tryz.prog w "internal/strconv.uint64pow10" .u64 Lib.pow10Tab) :
 Calls Tryz.prog 77 #[.int .i64 n] w fun e w'=>e = .returned (.string ⟨(Lib.itoa n).toArray⟩)∧∃ k os,w'=grow (w.drewN k) os:=Any.strconv_Itoa Tryz.laysM171 n h0 h1 w htab
def Tryz.lays171_ren:Go.Shelf.Ren:=⟨fun | 171=>77 | 243=>106 | 246=>126 | 283=>155 | 284=>156 | 285=>157 | 286=>158 | 129=>144 | 317=>174 | 318=>175 | 319=>176 | 320=>177 | 337=>184 | 338=>185 | n=>n,fun | 3=>3 | 9=>9 | 2=>2 | 4=>4 | 171=>238 | 0=>0 | 53=>229 | 37=>161 | 5=>5 | 173=>240 | 212=>259 | 51=>227 | 20=>20 | 213=>260 | 46=>203 | 232=>269 | 233=>270 | n=>n,fun | 17=>3 | 18=>5 | 19=>6 | n=>n⟩
theorem Tryz.lays171 : Go.Proofs.Lays.n171 Tryz.prog Tryz.lays171_ren := {
  mixed:=by kernel_rfl
  f129:=Tryz.func144.trans (congrArg some (by kernel_rfl))
  f171:=Tryz.func77.trans (congrArg some (by kernel_rfl))
  f243:=Tryz.func106.trans (congrArg some (by kernel_rfl))
  f246:=Tryz.func126.trans (congrArg some (by kernel_rfl))
  f283:=Tryz.func155.trans (congrArg some (by kernel_rfl))
  f284:=Tryz.func156.trans (congrArg some (by kernel_rfl))
  f285:=Tryz.func157.trans (congrArg some (by kernel_rfl))
  f286:=Tryz.func158.trans (congrArg some (by kernel_rfl))
  f317:=Tryz.func174.trans (congrArg some (by kernel_rfl))
  f318:=Tryz.func175.trans (congrArg some (by kernel_rfl))
  f319:=Tryz.func176.trans (congrArg some (by kernel_rfl))
  f320:=Tryz.func177.trans (congrArg some (by kernel_rfl))
  f337:=Tryz.func184.trans (congrArg some (by kernel_rfl))
  f338:=Tryz.func185.trans (congrArg some (by kernel_rfl))
  t0:=Tryz.underlying0
  a0:=Tryz.isAgg0
  z0:=Tryz.sizeOf0
  v0:=Tryz.zeroValue0
  t2:=Tryz.underlying2
  a2:=Tryz.isAgg2
  z2:=Tryz.sizeOf2
  v2:=Tryz.zeroValue2
  t3:=Tryz.underlying3
  a3:=Tryz.isAgg3
  z3:=Tryz.sizeOf3
  v3:=Tryz.zeroValue3
  t4:=Tryz.underlying4
  a4:=Tryz.isAgg4
  z4:=Tryz.sizeOf4
  v4:=Tryz.zeroValue4
  t5:=Tryz.underlying5
  a5:=Tryz.isAgg5
  z5:=Tryz.sizeOf5
  v5:=Tryz.zeroValue5
  t9:=Tryz.underlying9
  a9:=Tryz.isAgg9
  z9:=Tryz.sizeOf9
  v9:=Tryz.zeroValue9
  t20:=Tryz.underlying20
  a20:=Tryz.isAgg20
  z20:=Tryz.sizeOf20
  v20:=Tryz.zeroValue20
  t37:=Tryz.underlying161
  a37:=Tryz.isAgg161
  z37:=Tryz.sizeOf161
  v37:=Tryz.zeroValue161
  t46:=Tryz.underlying203
  a46:=Tryz.isAgg203
  z46:=Tryz.sizeOf203
  v46:=Tryz.zeroValue203
  t51:=Tryz.underlying227
  a51:=Tryz.isAgg227
  z51:=Tryz.sizeOf227
  v51:=Tryz.zeroValue227
  t53:=Tryz.underlying229
  a53:=Tryz.isAgg229
  z53:=Tryz.sizeOf229
  v53:=Tryz.zeroValue229
  t171:=Tryz.underlying238
  a171:=Tryz.isAgg238
  z171:=Tryz.sizeOf238
  v171:=Tryz.zeroValue238
  t173:=Tryz.underlying240
  a173:=Tryz.isAgg240
  z173:=Tryz.sizeOf240
  v173:=Tryz.zeroValue240
  t212:=Tryz.underlying259
  a212:=Tryz.isAgg259
  z212:=Tryz.sizeOf259
  v212:=Tryz.zeroValue259
  t213:=Tryz.underlying260
  a213:=Tryz.isAgg260
  z213:=Tryz.sizeOf260
  t232:=Tryz.underlying269
  a232:=Tryz.isAgg269
  z232:=Tryz.sizeOf269
  v232:=Tryz.zeroValue269
  t233:=Tryz.underlying270
  a233:=Tryz.isAgg270
  z233:=Tryz.sizeOf270
  v233:=Tryz.zeroValue270
  g17:=by kernel_rfl
  g18:=by kernel_rfl
  g19:=by kernel_rfl }
open Go.RowKit Go.Sort Go.Lib in
theorem Tryz.strconv_Itoa_small(i:Nat)(hi:i < 100)(w:World) :
 Calls Tryz.prog 77 #[.int .i64 i] w fun e w'=>e = .returned (.string ⟨(Lib.decDigits i).toArray⟩)∧w'=w:=Any.strconv_Itoa_small Tryz.lays171 i hi w
def Tryz.laysC172_ren:Go.Shelf.Ren:=⟨fun | 172=>101 | 244=>122 | 245=>123 | 247=>145 | 279=>146 | 280=>147 | 281=>148 | 282=>149 | 287=>168 | 316=>169 | 171=>77 | 205=>170 | 321=>181 | 322=>182 | 243=>106 | 246=>126 | 283=>155 | 284=>156 | 285=>157 | 286=>158 | 129=>144 | 317=>174 | 318=>175 | 319=>176 | 320=>177 | 337=>184 | 338=>185 | n=>n,fun | 9=>9 | 3=>3 | 75=>163 | 76=>164 | 4=>4 | 5=>5 | 167=>230 | 37=>161 | 0=>0 | 85=>231 | 2=>2 | 168=>233 | 53=>229 | 175=>252 | 46=>203 | 210=>255 | 127=>216 | 145=>267 | 143=>265 | 21=>21 | 171=>238 | 173=>240 | 212=>259 | 51=>227 | 20=>20 | 213=>260 | 232=>269 | 233=>270 | 80=>198 | n=>n,fun | 15=>1 | 16=>2 | 17=>3 | 18=>5 | 19=>6 | n=>n⟩
theorem Tryz.laysC172 : Go.Proofs.LaysC.n172 Tryz.prog Tryz.laysC172_ren := {
  mixed:=by kernel_rfl
  f129:=Tryz.func144.trans (congrArg some (by kernel_rfl))
  f171:=Tryz.func77.trans (congrArg some (by kernel_rfl))
  f172:=Tryz.func101.trans (congrArg some (by kernel_rfl))
  f205:=Tryz.func170.trans (congrArg some (by kernel_rfl))
  f243:=Tryz.func106.trans (congrArg some (by kernel_rfl))
  f244:=Tryz.func122.trans (congrArg some (by kernel_rfl))
  f245:=Tryz.func123.trans (congrArg some (by kernel_rfl))
  f246:=Tryz.func126.trans (congrArg some (by kernel_rfl))
  f247:=Tryz.func145.trans (congrArg some (by kernel_rfl))
  f279:=Tryz.func146.trans (congrArg some (by kernel_rfl))
  f280:=Tryz.func147.trans (congrArg some (by kernel_rfl))
  f281:=Tryz.func148.trans (congrArg some (by kernel_rfl))
  f282:=Tryz.func149.trans (congrArg some (by kernel_rfl))
  f283:=Tryz.func155.trans (congrArg some (by kernel_rfl))
  f284:=Tryz.func156.trans (congrArg some (by kernel_rfl))
  f285:=Tryz.func157.trans (congrArg some (by kernel_rfl))
  f286:=Tryz.func158.trans (congrArg some (by kernel_rfl))
  f287:=Tryz.func168.trans (congrArg some (by kernel_rfl))
  f316:=Tryz.func169.trans (congrArg some (by kernel_rfl))
  f317:=Tryz.func174.trans (congrArg some (by kernel_rfl))
  f318:=Tryz.func175.trans (congrArg some (by kernel_rfl))
  f319:=Tryz.func176.trans (congrArg some (by kernel_rfl))
  f320:=Tryz.func177.trans (congrArg some (by kernel_rfl))
  f321:=Tryz.func181.trans (congrArg some (by kernel_rfl))
  f322:=Tryz.func182.trans (congrArg some (by kernel_rfl))
  f337:=Tryz.func184.trans (congrArg some (by kernel_rfl))
  f338:=Tryz.func185.trans (congrArg some (by kernel_rfl))
  t0:=Tryz.underlying0
  a0:=Tryz.isAgg0
  z0:=Tryz.sizeOf0
  v0:=Tryz.zeroValue0
  t2:=Tryz.underlying2
  a2:=Tryz.isAgg2
  z2:=Tryz.sizeOf2
  v2:=Tryz.zeroValue2
  t3:=Tryz.underlying3
  a3:=Tryz.isAgg3
  z3:=Tryz.sizeOf3
  v3:=Tryz.zeroValue3
  t4:=Tryz.underlying4
  a4:=Tryz.isAgg4
  z4:=Tryz.sizeOf4
  v4:=Tryz.zeroValue4
  t5:=Tryz.underlying5
  a5:=Tryz.isAgg5
  z5:=Tryz.sizeOf5
  v5:=Tryz.zeroValue5
  t9:=Tryz.underlying9
  a9:=Tryz.isAgg9
  z9:=Tryz.sizeOf9
  v9:=Tryz.zeroValue9
  t20:=Tryz.underlying20
  a20:=Tryz.isAgg20
  z20:=Tryz.sizeOf20
  v20:=Tryz.zeroValue20
  t21:=Tryz.underlying21
  a21:=Tryz.isAgg21
  z21:=Tryz.sizeOf21
  v21:=Tryz.zeroValue21
  t37:=Tryz.underlying161
  a37:=Tryz.isAgg161
  z37:=Tryz.sizeOf161
  v37:=Tryz.zeroValue161
  t46:=Tryz.underlying203
  a46:=Tryz.isAgg203
  z46:=Tryz.sizeOf203
  v46:=Tryz.zeroValue203
  t51:=Tryz.underlying227
  a51:=Tryz.isAgg227
  z51:=Tryz.sizeOf227
  v51:=Tryz.zeroValue227
  t53:=Tryz.underlying229
  a53:=Tryz.isAgg229
  z53:=Tryz.sizeOf229
  v53:=Tryz.zeroValue229
  t75:=Tryz.underlying163
  a75:=Tryz.isAgg163
  z75:=Tryz.sizeOf163
  v75:=Tryz.zeroValue163
  t76:=Tryz.underlying164
  a76:=Tryz.isAgg164
  z76:=Tryz.sizeOf164
  v76:=Tryz.zeroValue164
  t85:=Tryz.underlying231
  a85:=Tryz.isAgg231
  z85:=Tryz.sizeOf231
  v85:=Tryz.zeroValue231
  t127:=Tryz.underlying216
  a127:=Tryz.isAgg216
  z127:=Tryz.sizeOf216
  v127:=Tryz.zeroValue216
  t143:=Tryz.underlying265
  a143:=Tryz.isAgg265
  z143:=Tryz.sizeOf265
  v143:=Tryz.zeroValue265
  t145:=Tryz.underlying267
  a145:=Tryz.isAgg267
  z145:=Tryz.sizeOf267
  v145:=Tryz.zeroValue267
  t167:=Tryz.underlying230
  a167:=Tryz.isAgg230
  z167:=Tryz.sizeOf230
  v167:=Tryz.zeroValue230
  t168:=Tryz.underlying233
  a168:=Tryz.isAgg233
  z168:=Tryz.sizeOf233
  v168:=Tryz.zeroValue233
  t171:=Tryz.underlying238
  a171:=Tryz.isAgg238
  z171:=Tryz.sizeOf238
  v171:=Tryz.zeroValue238
  t173:=Tryz.underlying240
  a173:=Tryz.isAgg240
  z173:=Tryz.sizeOf240
  v173:=Tryz.zeroValue240
  t175:=Tryz.underlying252
  a175:=Tryz.isAgg252
  z175:=Tryz.sizeOf252
  v175:=Tryz.zeroValue252
  t210:=Tryz.underlying255
  a210:=Tryz.isAgg255
  z210:=Tryz.sizeOf255
  v210:=Tryz.zeroValue255
  t212:=Tryz.underlying259
  a212:=Tryz.isAgg259
  z212:=Tryz.sizeOf259
  v212:=Tryz.zeroValue259
  t213:=Tryz.underlying260
  a213:=Tryz.isAgg260
  z213:=Tryz.sizeOf260
  t232:=Tryz.underlying269
  a232:=Tryz.isAgg269
  z232:=Tryz.sizeOf269
  v232:=Tryz.zeroValue269
  t233:=Tryz.underlying270
  a233:=Tryz.isAgg270
  z233:=Tryz.sizeOf270
  v233:=Tryz.zeroValue270
  g15:=by kernel_rfl
  g16:=by kernel_rfl
  g17:=by kernel_rfl
  g18:=by kernel_rfl
  g19:=by kernel_rfl
  t80:=Tryz.underlying198
  a80:=Tryz.isAgg198
  z80:=Tryz.sizeOf198
  v80:=Tryz.zeroValue198
  i0:=by kernel_rfl
  i2:=by kernel_rfl
  i3:=by kernel_rfl
  i4:=by kernel_rfl
  i5:=by kernel_rfl
  i9:=by kernel_rfl
  i20:=by kernel_rfl
  i21:=by kernel_rfl
  i37:=by kernel_rfl
  i46:=by kernel_rfl
  i51:=by kernel_rfl
  i53:=by kernel_rfl
  i75:=by kernel_rfl
  i76:=by kernel_rfl
  i80:=by kernel_rfl
  i85:=by kernel_rfl
  i127:=by kernel_rfl
  i143:=by kernel_rfl
  i145:=by kernel_rfl
  i167:=by kernel_rfl
  i168:=by kernel_rfl
  i171:=by kernel_rfl
  i173:=by kernel_rfl
  i175:=by kernel_rfl
  i210:=by kernel_rfl
  i212:=by kernel_rfl
  i232:=by kernel_rfl
  i233:=by kernel_rfl
  m15:=by kernel_rfl
  m16:=by kernel_rfl
  m17:=by kernel_rfl
  m18:=by kernel_rfl
  m19:=by kernel_rfl
  c0:=by kernel_rfl
  c2:=by kernel_rfl
  c3:=by kernel_rfl
  c4:=by kernel_rfl
  c5:=by kernel_rfl
  c9:=by kernel_rfl
  c20:=by kernel_rfl
  c21:=by kernel_rfl
  c37:=by kernel_rfl
  c46:=by kernel_rfl
  c51:=by kernel_rfl
  c53:=by kernel_rfl
  c75:=by kernel_rfl
  c76:=by kernel_rfl
  c80:=by kernel_rfl
  c85:=by kernel_rfl
  c127:=by kernel_rfl
  c143:=by kernel_rfl
  c145:=by kernel_rfl
  c167:=by kernel_rfl
  c168:=by kernel_rfl
  c171:=by kernel_rfl
  c173:=by kernel_rfl
  c175:=by kernel_rfl
  c210:=by kernel_rfl
  c212:=by kernel_rfl
  c213:=by kernel_rfl
  c232:=by kernel_rfl
  c233:=by kernel_rfl }
open Go.RowKit in
theorem Tryz.strconv_Atoi_ok(s:ByteArray)(hmax:s.size≤9223372036854775806)(v:Int)(h:Lib.atoiAll s.data.toList = .ok v)(w:World) :
 Calls Tryz.prog 101 #[.string s] w fun e w'=>e = .returned (.tuple #[.int .i64 v,.nilIface])∧(w'=w∨∃ t,w'=Lib.bytesWorld w 5 t):=Any.strconv_Atoi_ok Tryz.laysC172 s hmax v h w
open Go.RowKit in
theorem Tryz.strconv_Atoi_syntax(s:ByteArray)(hlim:s.size≤281474976710656)(h:∀ v,Lib.atoiAll s.data.toList≠.ok v)(h':Lib.atoiAll s.data.toList≠.range)(ev:Value)(w:World)(hv:w.cell? ⟨1,0,none⟩=some ev)(hev:ev = .nilIface∨∃ te pe,ev = .iface te pe) :
 Calls Tryz.prog 101 #[.string s] w fun e w'=>∃ N,e = .returned (.tuple #[.int .i64 (0),.iface 233 (.pointer (some ⟨N,0,none⟩))])∧w.heap.size≤N∧w'.heap[N]? = some (.cells #[.string ⟨#[65,116,111,105]⟩,.string s,ev] 255 (0,0))∧Below w.heap.size w w':=by
 rcases hh:Lib.atoiAll s.data.toList with v | _ | _
 · exact absurd hh (h v)
 · exact Any.strconv_Atoi_syntax Tryz.laysC172 s hlim hh ev w hv hev
 · exact absurd hh h'
open Go.RowKit in
theorem Tryz.strconv_Atoi_range(s:ByteArray)(hlim:s.size≤281474976710656)(h:Lib.atoiAll s.data.toList = .range)(ev:Value)(w:World)(hv:w.cell? ⟨2,0,none⟩=some ev)(hev:ev = .nilIface∨∃ te pe,ev = .iface te pe) :
 Calls Tryz.prog 101 #[.string s] w fun e w'=>∃ N,e = .returned (.tuple #[.int .i64 (Lib.atoiSat s.data.toList),.iface 233 (.pointer (some ⟨N,0,none⟩))])∧w.heap.size≤N∧w'.heap[N]? = some (.cells #[.string ⟨#[65,116,111,105]⟩,.string s,ev] 255 (0,0))∧Below w.heap.size w w':=Any.strconv_Atoi_range Tryz.laysC172 s hlim h ev w hv hev
def Tryz.lays109_ren:Go.Shelf.Ren:=⟨fun | 109=>99 | n=>n,fun | 31=>22 | 9=>9 | 3=>3 | 0=>0 | 4=>4 | n=>n,fun | n=>n⟩
theorem Tryz.lays109 : Go.Proofs.Lays.n109 Tryz.prog Tryz.lays109_ren := {
  mixed:=by kernel_rfl
  f109:=Tryz.func99.trans (congrArg some (by kernel_rfl))
  t0:=Tryz.underlying0
  a0:=Tryz.isAgg0
  z0:=Tryz.sizeOf0
  v0:=Tryz.zeroValue0
  t3:=Tryz.underlying3
  a3:=Tryz.isAgg3
  z3:=Tryz.sizeOf3
  v3:=Tryz.zeroValue3
  t4:=Tryz.underlying4
  a4:=Tryz.isAgg4
  z4:=Tryz.sizeOf4
  v4:=Tryz.zeroValue4
  t9:=Tryz.underlying9
  a9:=Tryz.isAgg9
  z9:=Tryz.sizeOf9
  v9:=Tryz.zeroValue9
  t31:=Tryz.underlying22
  a31:=Tryz.isAgg22
  z31:=Tryz.sizeOf22
  v31:=Tryz.zeroValue22 }
open Go.Lib in
theorem Tryz.slices_Index_string(b off n c:Nat)(zs:List ByteArray)(x:ByteArray)(w:World)(hz:n≤zs.length)(hbig:n≤9223372036854775807)(hc:∀ j,j < zs.length→w.cell? ⟨b,off+j,none⟩=some (.string (zs.getD j ByteArray.empty))) :
 Calls Tryz.prog 99 #[.slice (some ⟨b,off,none⟩) n c,.string x] w fun e w'=>e = .returned (.int .i64 (Lib.idxOfS (zs.take n) x))∧w'=w:=Any.slices_Index_string Tryz.lays109 b off n c zs x w hz hbig hc
open Go.Lib in
theorem Tryz.slices_Index_string_empty(a:Option Addr)(c:Nat)(x:ByteArray)(w:World) :
 Calls Tryz.prog 99 #[.slice a 0 c,.string x] w fun e w'=>e = .returned (.int .i64 (Lib.idxOfS [] x))∧w'=w:=Any.slices_Index_string_empty Tryz.lays109 a c x w
def Tryz.lays110_ren:Go.Shelf.Ren:=⟨fun | 110=>61 | 109=>99 | n=>n,fun | 31=>22 | 9=>9 | 4=>4 | 3=>3 | 0=>0 | n=>n,fun | n=>n⟩
theorem Tryz.lays110 : Go.Proofs.Lays.n110 Tryz.prog Tryz.lays110_ren := {
  mixed:=by kernel_rfl
  f109:=Tryz.func99.trans (congrArg some (by kernel_rfl))
  f110:=Tryz.func61.trans (congrArg some (by kernel_rfl))
  t0:=Tryz.underlying0
  a0:=Tryz.isAgg0
  z0:=Tryz.sizeOf0
  v0:=Tryz.zeroValue0
  t3:=Tryz.underlying3
  a3:=Tryz.isAgg3
  z3:=Tryz.sizeOf3
  v3:=Tryz.zeroValue3
  t4:=Tryz.underlying4
  a4:=Tryz.isAgg4
  z4:=Tryz.sizeOf4
  v4:=Tryz.zeroValue4
  t9:=Tryz.underlying9
  a9:=Tryz.isAgg9
  z9:=Tryz.sizeOf9
  v9:=Tryz.zeroValue9
  t31:=Tryz.underlying22
  a31:=Tryz.isAgg22
  z31:=Tryz.sizeOf22
  v31:=Tryz.zeroValue22 }
open Go.Lib in
theorem Tryz.slices_Contains_string(b off n c:Nat)(zs:List ByteArray)(x:ByteArray)(w:World)(hz:n≤zs.length)(hbig:n≤9223372036854775807)(hc:∀ j,j < zs.length→w.cell? ⟨b,off+j,none⟩=some (.string (zs.getD j ByteArray.empty))) :
 Calls Tryz.prog 61 #[.slice (some ⟨b,off,none⟩) n c,.string x] w fun e w'=>e = .returned (.bool (Lib.containsS (zs.take n) x))∧w'=w:=Any.slices_Contains_string Tryz.lays110 b off n c zs x w hz hbig hc
open Go.Lib in
theorem Tryz.slices_Contains_string_empty(a:Option Addr)(c:Nat)(x:ByteArray)(w:World) :
 Calls Tryz.prog 61 #[.slice a 0 c,.string x] w fun e w'=>e = .returned (.bool false)∧w'=w:=Any.slices_Contains_string_empty Tryz.lays110 a c x w
def Tryz.laysNm217_ren:Go.Shelf.Ren:=⟨fun | 17=>98 | n=>n,fun | 24=>22 | 9=>9 | 3=>3 | 4=>4 | 0=>0 | n=>n,fun | n=>n⟩
theorem Tryz.laysNm217 : Go.Proofs.Lays2.n17 Tryz.prog Tryz.laysNm217_ren := {
  mixed:=by kernel_rfl
  f17:=Tryz.func98.trans (congrArg some (by kernel_rfl))
  t0:=Tryz.underlying0
  a0:=Tryz.isAgg0
  z0:=Tryz.sizeOf0
  v0:=Tryz.zeroValue0
  t3:=Tryz.underlying3
  a3:=Tryz.isAgg3
  z3:=Tryz.sizeOf3
  v3:=Tryz.zeroValue3
  t4:=Tryz.underlying4
  a4:=Tryz.isAgg4
  z4:=Tryz.sizeOf4
  v4:=Tryz.zeroValue4
  t9:=Tryz.underlying9
  a9:=Tryz.isAgg9
  z9:=Tryz.sizeOf9
  v9:=Tryz.zeroValue9
  t24:=Tryz.underlying22
  a24:=Tryz.isAgg22
  z24:=Tryz.sizeOf22
  v24:=Tryz.zeroValue22 }
open Go.RowKit Go.Lib Go.Sort in
theorem Tryz.slices_Reverse_string_empty(a:Option Addr)(cap:Nat)(w:World) :
 Calls Tryz.prog 98 #[.slice a 0 cap] w fun e w'=>e = .returned (.tuple #[])∧w'=w:=Any.slices_Reverse_string_empty Tryz.laysNm217 a cap w
def Tryz.laysNm216_ren:Go.Shelf.Ren:=⟨fun | 16=>97 | n=>n,fun | 24=>22 | 9=>9 | 4=>4 | n=>n,fun | n=>n⟩
theorem Tryz.laysNm216 : Go.Proofs.Lays2.n16 Tryz.prog Tryz.laysNm216_ren := {
  mixed:=by kernel_rfl
  f16:=Tryz.func97.trans (congrArg some (by kernel_rfl))
  t4:=Tryz.underlying4
  a4:=Tryz.isAgg4
  z4:=Tryz.sizeOf4
  v4:=Tryz.zeroValue4
  t9:=Tryz.underlying9
  a9:=Tryz.isAgg9
  z9:=Tryz.sizeOf9
  v9:=Tryz.zeroValue9
  t24:=Tryz.underlying22
  a24:=Tryz.isAgg22
  z24:=Tryz.sizeOf22
  v24:=Tryz.zeroValue22
  i9:=by kernel_rfl }
open Go.RowKit Go.Lib in
theorem Tryz.slices_Clone_string(b off n c:Nat)(zs:List ByteArray)(w:World)(hz:n≤zs.length)(hbig:n * 16≤140737488355328)(hc:∀ j,j < zs.length→w.cell? ⟨b,off+j,none⟩=some (.string (zs.getD j ByteArray.empty))) :
 Calls Tryz.prog 97 #[.slice (some ⟨b,off,none⟩) n c] w fun e w'=>∃ v',e = .returned v'∧w'.ownsRow w.heap.size 9 1 v' n ((zs.take n).map (Value.string))∧v'≠.slice none 0 0∧Below w.heap.size w w':=Any.slices_Clone_string Tryz.laysNm216 b off n c zs w hz hbig hc
open Go.RowKit Go.Lib in
theorem Tryz.slices_Clone_string_nil(n c:Nat)(w:World) :
 Calls Tryz.prog 97 #[.slice none n c] w fun e w'=>e = .returned (.slice none 0 0)∧w'=w:=Any.slices_Clone_string_nil Tryz.laysNm216 n c w
open Go.RowKit Go.Lib in
theorem Tryz.slices_Clone_string_zero(a:Addr)(c:Nat)(w:World) :
 Calls Tryz.prog 97 #[.slice (some a) 0 c] w fun e w'=>∃ v',e = .returned v'∧w'.ownsRow w.heap.size 9 1 v' 0 []∧v'≠.slice none 0 0∧Below w.heap.size w w':=Any.slices_Clone_string_zero Tryz.laysNm216 a c w
open Go.RowKit Go.Lib Go.Sort in
theorem Tryz.slices_Reverse_string_cells(b off n c:Nat)(Sx:Nat→ByteArray)(w:World)(hbig:n≤9223372036854775807)(hc:∀ i,i < n→w.cell? ⟨b,off+i,none⟩=some (.string (Sx i)))(hf:∀ j,j < n→w.frozen? ⟨b,off+j,none⟩=false) :
 Calls Tryz.prog 98 #[.slice (some ⟨b,off,none⟩) n c] w fun e w'=>e = .returned (.tuple #[])∧∃ q,w'=(w.drewN q).setCells b off ((Lib.strsOf Sx n).reverse.map encStr):=Any.slices_Reverse_string_cells Tryz.laysNm217 b off n c Sx w hbig hc hf
def Tryz.laysSlM6_f90_ren:Go.Shelf.Ren:=⟨fun | 6=>90 | 8=>120 | 9=>119 | 19=>143 | 20=>144 | 21=>134 | 22=>135 | 23=>136 | 24=>137 | 25=>138 | 26=>139 | 27=>140 | 28=>141 | 29=>142 | 36=>162 | 31=>163 | 32=>164 | 37=>165 | 38=>166 | 39=>167 | 41=>180 | n=>n,fun | 27=>22 | 29=>9 | 3=>3 | 32=>203 | 26=>22 | 0=>0 | 44=>227 | 46=>229 | 4=>4 | 36=>220 | 35=>219 | 41=>119 | 5=>5 | 9=>9 | 53=>246 | 57=>250 | 63=>262 | 64=>96 | n=>n,fun | n=>n⟩
theorem Tryz.laysSlM6_f90 : Go.Proofs.SlLaysM.n6 Tryz.prog Tryz.laysSlM6_f90_ren := {
  mixed:=by kernel_rfl
  f6:=⟨Tryz.f90.name,by decide,Tryz.func90.trans (congrArg some (by kernel_rfl))⟩
  f8:=Tryz.func120.trans (congrArg some (by kernel_rfl))
  f9:=⟨Tryz.f119.name,by decide,Tryz.func119.trans (congrArg some (by kernel_rfl))⟩
  f19:=Tryz.func143.trans (congrArg some (by kernel_rfl))
  f20:=Tryz.func144.trans (congrArg some (by kernel_rfl))
  f21:=⟨Tryz.f134.name,by decide,Tryz.func134.trans (congrArg some (by kernel_rfl))⟩
  f22:=⟨Tryz.f135.name,by decide,Tryz.func135.trans (congrArg some (by kernel_rfl))⟩
  f23:=⟨Tryz.f136.name,by decide,Tryz.func136.trans (congrArg some (by kernel_rfl))⟩
  f24:=⟨Tryz.f137.name,by decide,Tryz.func137.trans (congrArg some (by kernel_rfl))⟩
  f25:=⟨Tryz.f138.name,by decide,Tryz.func138.trans (congrArg some (by kernel_rfl))⟩
  f26:=⟨Tryz.f139.name,by decide,Tryz.func139.trans (congrArg some (by kernel_rfl))⟩
  f27:=⟨Tryz.f140.name,by decide,Tryz.func140.trans (congrArg some (by kernel_rfl))⟩
  f28:=⟨Tryz.f141.name,by decide,Tryz.func141.trans (congrArg some (by kernel_rfl))⟩
  f29:=⟨Tryz.f142.name,by decide,Tryz.func142.trans (congrArg some (by kernel_rfl))⟩
  f31:=Tryz.func163.trans (congrArg some (by kernel_rfl))
  f32:=Tryz.func164.trans (congrArg some (by kernel_rfl))
  f36:=⟨Tryz.f162.name,by decide,Tryz.func162.trans (congrArg some (by kernel_rfl))⟩
  f37:=⟨Tryz.f165.name,by decide,Tryz.func165.trans (congrArg some (by kernel_rfl))⟩
  f38:=⟨Tryz.f166.name,by decide,Tryz.func166.trans (congrArg some (by kernel_rfl))⟩
  f39:=⟨Tryz.f167.name,by decide,Tryz.func167.trans (congrArg some (by kernel_rfl))⟩
  f41:=⟨Tryz.f180.name,by decide,Tryz.func180.trans (congrArg some (by kernel_rfl))⟩
  t0:=Tryz.underlying0
  a0:=Tryz.isAgg0
  z0:=Tryz.sizeOf0
  v0:=Tryz.zeroValue0
  t3:=Tryz.underlying3
  a3:=Tryz.isAgg3
  z3:=Tryz.sizeOf3
  v3:=Tryz.zeroValue3
  t4:=Tryz.underlying4
  a4:=Tryz.isAgg4
  z4:=Tryz.sizeOf4
  v4:=Tryz.zeroValue4
  t5:=Tryz.underlying5
  a5:=Tryz.isAgg5
  z5:=Tryz.sizeOf5
  v5:=Tryz.zeroValue5
  t9:=Tryz.underlying9
  a9:=Tryz.isAgg9
  z9:=Tryz.sizeOf9
  v9:=Tryz.zeroValue9
  t26:=Tryz.underlying22
  a26:=Tryz.isAgg22
  z26:=Tryz.sizeOf22
  v26:=Tryz.zeroValue22
  t27:=Tryz.underlying22
  a27:=Tryz.isAgg22
  z27:=Tryz.sizeOf22
  v27:=Tryz.zeroValue22
  t29:=Tryz.underlying9
  a29:=Tryz.isAgg9
  z29:=Tryz.sizeOf9
  v29:=Tryz.zeroValue9
  t32:=Tryz.underlying203
  a32:=Tryz.isAgg203
  z32:=Tryz.sizeOf203
  v32:=Tryz.zeroValue203
  t35:=Tryz.underlying219
  a35:=Tryz.isAgg219
  z35:=Tryz.sizeOf219
  v35:=Tryz.zeroValue219
  t36:=Tryz.underlying220
  a36:=Tryz.isAgg220
  z36:=Tryz.sizeOf220
  v36:=Tryz.zeroValue220
  t41:=Tryz.underlying119
  a41:=Tryz.isAgg119
  z41:=Tryz.sizeOf119
  v41:=Tryz.zeroValue119
  t44:=Tryz.underlying227
  a44:=Tryz.isAgg227
  z44:=Tryz.sizeOf227
  v44:=Tryz.zeroValue227
  t46:=Tryz.underlying229
  a46:=Tryz.isAgg229
  z46:=Tryz.sizeOf229
  v46:=Tryz.zeroValue229
  t53:=Tryz.underlying246
  a53:=Tryz.isAgg246
  z53:=Tryz.sizeOf246
  v53:=Tryz.zeroValue246
  t57:=Tryz.underlying250
  a57:=Tryz.isAgg250
  z57:=Tryz.sizeOf250
  v57:=Tryz.zeroValue250
  t63:=Tryz.underlying262
  a63:=Tryz.isAgg262
  z63:=Tryz.sizeOf262
  v63:=Tryz.zeroValue262
  t64:=Tryz.underlying96
  a64:=Tryz.isAgg96
  z64:=Tryz.sizeOf96
  v64:=Tryz.zeroValue96 }
open Go.RowKit Go.Sort in
theorem Tryz.slices_Sort_string_none(p:Option Addr)(cap:Nat)(w:World) :
 Calls Tryz.prog 90 #[.slice p 0 cap] w fun e w'=>e = .returned (.tuple #[])∧w'=w:=AnyM.slices_Sort_string_none Tryz.laysSlM6_f90 p cap w
end Go.Proofs
namespace Go.Proofs.YtlnlpdephijcoaaGreatDoor
open Go.Lx Go.RowKit
theorem uU{w:World}{b off:Nat}{ss:List ByteArray}(h:CellsAt w b off (ss.map .string))(j:Nat)(hj:j < ss.length):w.cell? ⟨b,off+j,none⟩=some (.string (ss.getD j ByteArray.empty)):=by
 refine h j _ ?_;rw[List.getElem?_map,List.getElem?_eq_getElem hj,List.getD_eq_getElem?_getD,List.getElem?_eq_getElem hj];rfl
theorem dRA{w:World}{v:Value}{ss:List ByteArray}(hv:TextsV w v ss)(hn:ss.length≤1000000):Calls Tryz.prog 97 #[v] w fun e w'=>∃ u,e = .returned u∧w'.ownsRow w.heap.size 9 1 u ss.length (ss.map .string)∧Under w w':=by
 obtain⟨p,c,rfl,h1,h2,h3⟩:=hv
 cases p with
 | none =>
   have hl:ss=[]:=Classical.byContradiction fun h=>by
    obtain⟨b,off,e,_⟩:=h3 (fun e=>h (by simpa using e))
    cases e
   subst hl;refine(Tryz.slices_Clone_string_nil _ c w).mono ?_;rintro e w' ⟨rfl,rfl⟩;exact⟨_,rfl,World.ownsRow_nil _ _ _ _,Under.refl _⟩
 | some a =>
   by_cases hl:ss=[]
   · subst hl;refine(Tryz.slices_Clone_string_zero a c w).mono ?_;rintro e w' ⟨v',rfl,h4,_,h5⟩;exact⟨v',rfl,h4,zI h5⟩
   · obtain ⟨b, off, e, hb, hc⟩ := h3 (fun e => hl (by simpa using e))
     cases e;refine(Tryz.slices_Clone_string b off ss.length c ss w (Nat.le_refl _) (by omega) (uU hc)).mono ?_;rintro e w' ⟨v',rfl,h4,_,h5⟩;rw[List.take_length]at h4;exact⟨v',rfl,h4,zI h5⟩
theorem pTA{w:World}{v:Value}{ss:List ByteArray}(x:ByteArray)(hv:TextsV w v ss)(hn:ss.length≤1000000):Calls Tryz.prog 99 #[v,.string x] w fun e w'=>e = .returned (.int .i64 (Lib.idxOfS ss x))∧w'=w:=by
 obtain⟨p,c,rfl,h1,h2,h3⟩:=hv;by_cases hl:ss=[]
 · subst hl;exact Tryz.slices_Index_string_empty p c x w
 · obtain⟨b,off,rfl,hb,hc⟩:=h3 (fun e=>hl (by simpa using e));have:=Tryz.slices_Index_string b off ss.length c ss x w (Nat.le_refl _) (by omega) (uU hc);rw[List.take_length]at this;exact this
theorem qQ{w:World}{v:Value}{ss:List ByteArray}(x:ByteArray)(hv:TextsV w v ss)(hn:ss.length≤1000000):Calls Tryz.prog 61 #[v,.string x] w fun e w'=>e = .returned (.bool (rD ss x))∧w'=w:=by
 obtain⟨p,c,rfl,h1,h2,h3⟩:=hv;by_cases hl:ss=[]
 · subst hl;exact Tryz.slices_Contains_string_empty p c x w
 · obtain⟨b,off,rfl,hb,hc⟩:=h3 (fun e=>hl (by simpa using e));have:=Tryz.slices_Contains_string b off ss.length c ss x w (Nat.le_refl _) (by omega) (uU hc);rw[List.take_length,aHA]at this;exact this
theorem sLA{W w:World}{v:Value}{base:Nat}{ss:List ByteArray}(hr:w.ownsRow base 9 1 v ss.length (ss.map .string))(hn:ss.length≤1000000)(hb:W.heap.size≤base)(hU:Under W w) :
 Calls Tryz.prog 98 #[v] w fun e w'=>e = .returned (.tuple #[])∧w'.ownsRow base 9 1 v ss.length (ss.reverse.map .string)∧Under W w':=by
 by_cases hl:ss=[]
 · subst hl; have hv : ∃ a c, v = .slice a 0 c := by
    rcases hr.2 with⟨rfl,_⟩ | ⟨g,c,cur,rfl,_⟩
    · exact⟨_,_,rfl⟩
    · exact⟨_,_,rfl⟩
   obtain⟨a,c,rfl⟩:=hv;refine(Tryz.slices_Reverse_string_empty a c w).mono ?_;rintro e w' ⟨rfl,rfl⟩;exact⟨rfl,hr,hU⟩
 · have hpos : 0 < ss.length := List.length_pos_iff.2 hl; obtain ⟨g, c, rfl, hg, hgb, hgl, _, _⟩ := wC hr hpos; refine (Tryz.slices_Reverse_string_cells g 0 ss.length c (fun i => ss.getD i ByteArray.empty) w (by omega) ?_ ?_).mono ?_
   · intro i hi;rw[Nat.zero_add];exact lC hr rfl (by rw[List.getElem?_map,List.getElem?_eq_getElem hi,List.getD_eq_getElem?_getD,List.getElem?_eq_getElem hi];rfl)
   · intro j _;rw[Nat.zero_add];exact uR hr rfl j
   · rintro e w' ⟨rfl, q, rfl⟩; have hU1 : Under w (w.drewN q) := bB (Under.refl _) q; have hs : (Lib.strsOf (fun i => ss.getD i ByteArray.empty) ss.length).reverse.map Proofs.encStr = ss.reverse.map Value.string := by
      rw[List.map_reverse,List.map_reverse];congr 1
      apply List.ext_getElem
      · simp[Lib.strsOf]
      · intro j h1 h2;simp at h2;simp[Lib.strsOf,Proofs.encStr,List.getD_eq_getElem?_getD,List.getElem?_eq_getElem h2]
     rw[hs];have h4:=j5 (g:=g) rfl (ss.reverse.map Value.string) 0 _ _ (uA hr hU1) (by simp);rw[List.take_zero,List.nil_append,List.drop_eq_nil_of_le (by simp),List.append_nil]at h4;exact⟨rfl,h4,wU (by omega) _ _ _ (hU.trans hU1)⟩
end Go.Proofs.YtlnlpdephijcoaaGreatDoor
