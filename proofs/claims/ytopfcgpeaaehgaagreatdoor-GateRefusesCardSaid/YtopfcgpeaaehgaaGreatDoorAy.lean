/-
  DERIVED: THE SHELF's CONTRACTS AT THIS DUMP, IN PLAIN WORDS (tools/lay-plain.mjs out of 'YtopfcgpeaaehgaaGreatDoorAz.lean', which tools/lay-shelf.mjs wrote): THE SAME DECLARATIONS UNDER THE SAME NAMES: 'import', 'namespace', 'open', 'def', 'theorem' AND NOTHING ELSE: no command of the shelf's: FOR A HAND-IN. Each laying: the table of numbers ('.._ren') and one theorem, a field a fact of the dump's own or the kernel's comparison; each contract: ONE APPLICATION.
-/
import Derived.Shelf.Strings.Builder1
import Derived.Shelf.Strings.Builder2
import Derived.Shelf.Strings.OnBuilder
import Derived.Shelf.Small.Bits
import Derived.Shelf.Small.Strs
import Derived.Shelf.Small.Wraps
import Derived.Shelf.Strings.BuilderF
import Derived.Shelf.Strings.BuilderK
import Derived.Shelf.Strconv.Atoi
import Derived.Shelf.Strconv.Itoa0
import Derived.Shelf.Strconv.Itoa1
import Derived.Shelf.LaysM
import Derived.Shelf.Strconv.Itoa2
import Derived.Shelf.Strconv.Itoa3
import Derived.Shelf.Strconv.AtoiErrFast
import Derived.Shelf.Strconv.ParseIntEmpty
import Derived.Shelf.Strconv.AtoiFail
import Derived.Shelf.Strconv.Clone
import Derived.Shelf.Strconv.SyntaxError
import Derived.Shelf.LaysC
import Derived.Shelf.Strconv.ToError
import Derived.Shelf.Strconv.Lower
import Derived.Shelf.Strconv.ParseUint10
import Derived.Shelf.Strconv.ParseUint10Empty
import Derived.Shelf.Strconv.ParseUint10Any
import Derived.Shelf.Strconv.ParseInt10
import Derived.Shelf.Strconv.AtoiLong
import Derived.Shelf.Strconv.AtoiInnerAll
import Derived.Shelf.Strconv.RangeError
import Derived.Shelf.Strconv.ToErrorRange
import Derived.Shelf.Strconv.AtoiAll
import Derived.Shelf.Strings.Search1
import Derived.Shelf.Strings.Search2
import Derived.Shelf.Strings.Search3
import Derived.Shelf.Strings.Cut
import Derived.Shelf.Strings.Count
import Derived.Shelf.Strings.Shaped
import Derived.Shelf.Sort.Plain
import Derived.Shelf.GgClosure.StringsIndexFunc
import Derived.Ground.GgwProg
import Derived.Shelf.GgClosure.StringsIndexFuncTop
import Derived.Shelf.Strings.Prefix
import Derived.Shelf.Strings.Split
import Derived.Shelf.Strings.SplitShaped
import Derived.Shelf.Unicode.DecodeSlow
import Derived.Shelf.Unicode.DecodeAny
import Derived.Shelf.Strings.FuncGrows
import Derived.Shelf.Slices.Turned
import Derived.Shelf.Slices.Equal
import Derived.Ground.Names2Prog
import Derived.Shelf.Slices.Clone
import Derived.Ground.SlgnProg
import Derived.Shelf.SlicesE.Clone
import Derived.Test.YtopfcgpeaaehgaaGreatDoorProg
namespace Go.Proofs
open Go.Shelf
def Tryz.lays169_ren:Go.Shelf.Ren:=⟨fun | 169=>104 |n=>n,fun | 70=>154 | 9=>9 | 0=>0 | 72=>156 | 37=>23 | 127=>188 | 3=>3 | 5=>5 |n=>n,fun |n=>n⟩
theorem Tryz.lays169:Go.Proofs.Lays.n169 Tryz.prog Tryz.lays169_ren:={
 mixed:=by kernel_rfl
 f169:=Tryz.func104.trans (congrArg some (by kernel_rfl))
 t0:=Tryz.underlying0
 a0:=Tryz.isAgg0
 z0:=Tryz.sizeOf0
 v0:=Tryz.zeroValue0
 t3:=Tryz.underlying3
 a3:=Tryz.isAgg3
 z3:=Tryz.sizeOf3
 v3:=Tryz.zeroValue3
 t9:=Tryz.underlying9
 a9:=Tryz.isAgg9
 z9:=Tryz.sizeOf9
 v9:=Tryz.zeroValue9
 t37:=Tryz.underlying23
 a37:=Tryz.isAgg23
 z37:=Tryz.sizeOf23
 v37:=Tryz.zeroValue23
 t70:=Tryz.underlying154
 a70:=Tryz.isAgg154
 z70:=Tryz.sizeOf154
 v70:=Tryz.zeroValue154
 t72:=Tryz.underlying156
 a72:=Tryz.isAgg156
 z72:=Tryz.sizeOf156
 v72:=Tryz.zeroValue156
 t127:=Tryz.underlying188
 a127:=Tryz.isAgg188
 z127:=Tryz.sizeOf188
 v127:=Tryz.zeroValue188}
theorem Tryz.Builder_Extra_169:Builder.Extra Tryz.prog Tryz.lays169_ren:={
 sizeBuilder:=by kernel_rfl
 liesBuilder:=by kernel_rfl
 t5:=Tryz.underlying5
 a5:=Tryz.isAgg5
 z5:=Tryz.sizeOf5
 v5:=Tryz.zeroValue5
 infoByte:=by kernel_rfl
 cellsByte:=by kernel_rfl
 sizeByte:=by kernel_rfl
 neB5:=by decide}
open Go.RowKit in
theorem Tryz.Builder_String (B b:Nat) (l:List UInt8) (w:World) (h:Lib.IsBuilder 156 5 B b (Lib.byteCells l) w) (h0:l≠ []):
  Calls Tryz.prog 104 #[.pointer (some ⟨b,0,none⟩)] w fun e w'=>e= .returned (.string ⟨l.toArray⟩)∧Below B w w':=Any.Builder_String Tryz.lays169 Tryz.Builder_Extra_169 B b l w h h0
def Tryz.lays103_ren:Go.Shelf.Ren:=⟨fun | 103=>90 | 210=>126 | 206=>158 |n=>n,fun | 9=>9 | 4=>4 | 24=>114 | 3=>3 |n=>n,fun |n=>n⟩
theorem Tryz.lays103:Go.Proofs.Lays.n103 Tryz.prog Tryz.lays103_ren:={
 mixed:=by kernel_rfl
 f103:=Tryz.func90.trans (congrArg some (by kernel_rfl))
 f206:=Tryz.func158.trans (congrArg some (by kernel_rfl))
 f210:=Tryz.func126.trans (congrArg some (by kernel_rfl))
 t3:=Tryz.underlying3
 a3:=Tryz.isAgg3
 z3:=Tryz.sizeOf3
 v3:=Tryz.zeroValue3
 t4:=Tryz.underlying4
 a4:=Tryz.isAgg4
 z4:=Tryz.sizeOf4
 v4:=Tryz.zeroValue4
 t9:=Tryz.underlying9
 a9:=Tryz.isAgg9
 z9:=Tryz.sizeOf9
 v9:=Tryz.zeroValue9
 t24:=Tryz.underlying114
 a24:=Tryz.isAgg114
 z24:=Tryz.sizeOf114
 v24:=Tryz.zeroValue114}
open Go.RowKit in
theorem Tryz.strings_CutPrefix (s p:ByteArray) (w:World):
  Calls Tryz.prog 90 #[.string s,.string p] w fun e w'=>e= .returned (.tuple #[.string ⟨(Lib.trimPrefix s.data.toList p.data.toList).toArray⟩,.bool (Lib.hasPrefix s.data.toList p.data.toList)])∧w'=w:=Any.strings_CutPrefix Tryz.lays103 s p w
def Tryz.laysM171_ren:Go.Shelf.Ren:=⟨fun | 171=>131 | 243=>169 | 246=>188 | 283=>211 | 284=>212 | 285=>213 | 286=>214 | 129=>202 | 317=>226 | 318=>227 | 319=>228 | 320=>229 | 337=>233 | 338=>234 |n=>n,fun | 3=>3 | 9=>9 | 2=>2 | 4=>4 | 171=>258 | 0=>0 | 53=>57 | 37=>23 | 5=>5 | 173=>260 | 212=>276 | 51=>219 | 20=>20 | 213=>277 | 46=>158 | 232=>178 | 233=>208 |n=>n,fun | 17=>3 | 18=>6 | 19=>7 |n=>n⟩
theorem Tryz.laysM171:Go.Proofs.LaysM.n171 Tryz.prog Tryz.laysM171_ren:={
 mixed:=by kernel_rfl
 f129:=Tryz.func202.trans (congrArg some (by kernel_rfl))
 f171:=Tryz.func131.trans (congrArg some (by kernel_rfl))
 f243:=Tryz.func169.trans (congrArg some (by kernel_rfl))
 f246:=Tryz.func188.trans (congrArg some (by kernel_rfl))
 f283:=Tryz.func211.trans (congrArg some (by kernel_rfl))
 f284:=Tryz.func212.trans (congrArg some (by kernel_rfl))
 f285:=Tryz.func213.trans (congrArg some (by kernel_rfl))
 f286:=Tryz.func214.trans (congrArg some (by kernel_rfl))
 f317:=Tryz.func226.trans (congrArg some (by kernel_rfl))
 f318:=Tryz.func227.trans (congrArg some (by kernel_rfl))
 f319:=Tryz.func228.trans (congrArg some (by kernel_rfl))
 f320:=Tryz.func229.trans (congrArg some (by kernel_rfl))
 f337:=Tryz.func233.trans (congrArg some (by kernel_rfl))
 f338:=Tryz.func234.trans (congrArg some (by kernel_rfl))
 t0:=Tryz.underlying0
 a0:=Tryz.isAgg0
 z0:=Tryz.sizeOf0
 v0:=Tryz.zeroValue0
 t2:=Tryz.underlying2
 a2:=Tryz.isAgg2
 z2:=Tryz.sizeOf2
 v2:=Tryz.zeroValue2
 t3:=Tryz.underlying3
 a3:=Tryz.isAgg3
 z3:=Tryz.sizeOf3
 v3:=Tryz.zeroValue3
 t4:=Tryz.underlying4
 a4:=Tryz.isAgg4
 z4:=Tryz.sizeOf4
 v4:=Tryz.zeroValue4
 t5:=Tryz.underlying5
 a5:=Tryz.isAgg5
 z5:=Tryz.sizeOf5
 v5:=Tryz.zeroValue5
 t9:=Tryz.underlying9
 a9:=Tryz.isAgg9
 z9:=Tryz.sizeOf9
 v9:=Tryz.zeroValue9
 t20:=Tryz.underlying20
 a20:=Tryz.isAgg20
 z20:=Tryz.sizeOf20
 v20:=Tryz.zeroValue20
 t37:=Tryz.underlying23
 a37:=Tryz.isAgg23
 z37:=Tryz.sizeOf23
 v37:=Tryz.zeroValue23
 t46:=Tryz.underlying158
 a46:=Tryz.isAgg158
 z46:=Tryz.sizeOf158
 v46:=Tryz.zeroValue158
 t51:=Tryz.underlying219
 a51:=Tryz.isAgg219
 z51:=Tryz.sizeOf219
 v51:=Tryz.zeroValue219
 t53:=Tryz.underlying57
 a53:=Tryz.isAgg57
 z53:=Tryz.sizeOf57
 v53:=Tryz.zeroValue57
 t171:=Tryz.underlying258
 a171:=Tryz.isAgg258
 z171:=Tryz.sizeOf258
 v171:=Tryz.zeroValue258
 t173:=Tryz.underlying260
 a173:=Tryz.isAgg260
 z173:=Tryz.sizeOf260
 v173:=Tryz.zeroValue260
 t212:=Tryz.underlying276
 a212:=Tryz.isAgg276
 z212:=Tryz.sizeOf276
 v212:=Tryz.zeroValue276
 t213:=Tryz.underlying277
 a213:=Tryz.isAgg277
 z213:=Tryz.sizeOf277
 t232:=Tryz.underlying178
 a232:=Tryz.isAgg178
 z232:=Tryz.sizeOf178
 v232:=Tryz.zeroValue178
 t233:=Tryz.underlying208
 a233:=Tryz.isAgg208
 z233:=Tryz.sizeOf208
 v233:=Tryz.zeroValue208
 g17:=by kernel_rfl
 g18:=by kernel_rfl
 g19:=by kernel_rfl
 i0:=by kernel_rfl
 i2:=by kernel_rfl
 i3:=by kernel_rfl
 i4:=by kernel_rfl
 i5:=by kernel_rfl
 i9:=by kernel_rfl
 i20:=by kernel_rfl
 i37:=by kernel_rfl
 i46:=by kernel_rfl
 i51:=by kernel_rfl
 i53:=by kernel_rfl
 i171:=by kernel_rfl
 i173:=by kernel_rfl
 i212:=by kernel_rfl
 i232:=by kernel_rfl
 i233:=by kernel_rfl
 m17:=by kernel_rfl
 m18:=by kernel_rfl
 m19:=by kernel_rfl}
open Go.RowKit Go.Sort Go.Lib in
theorem Tryz.strconv_Itoa (n:Int) (h0: -9223372036854775808≤n) (h1:n≤9223372036854775807) (w:World) (htab:Lib.TabIs Tryz.prog w "internal/strconv.uint64pow10" .u64 Lib.pow10Tab):
  Calls Tryz.prog 131 #[.int .i64 n] w fun e w'=>e= .returned (.string ⟨(Lib.itoa n).toArray⟩)∧∃k os,w'=grow (w.drewN k) os:=Any.strconv_Itoa Tryz.laysM171 n h0 h1 w htab
def Tryz.laysC172_ren:Go.Shelf.Ren:=⟨fun | 172=>95 | 244=>129 | 245=>130 | 247=>164 | 279=>165 | 280=>166 | 281=>167 | 282=>168 | 287=>185 | 316=>186 | 171=>131 | 205=>187 | 321=>209 | 322=>210 | 243=>169 | 246=>188 | 283=>211 | 284=>212 | 285=>213 | 286=>214 | 129=>202 | 317=>226 | 318=>227 | 319=>228 | 320=>229 | 337=>233 | 338=>234 |n=>n,fun | 9=>9 | 3=>3 | 75=>147 | 76=>148 | 4=>4 | 5=>5 | 167=>201 | 37=>23 | 0=>0 | 85=>202 | 2=>2 | 168=>204 | 53=>57 | 175=>227 | 46=>158 | 210=>230 | 127=>188 | 145=>257 | 143=>255 | 21=>21 | 171=>258 | 173=>260 | 212=>276 | 51=>219 | 20=>20 | 213=>277 | 232=>178 | 233=>208 | 80=>159 |n=>n,fun | 15=>1 | 16=>2 | 17=>3 | 18=>6 | 19=>7 |n=>n⟩
theorem Tryz.laysC172:Go.Proofs.LaysC.n172 Tryz.prog Tryz.laysC172_ren:={
 mixed:=by kernel_rfl
 f129:=Tryz.func202.trans (congrArg some (by kernel_rfl))
 f171:=Tryz.func131.trans (congrArg some (by kernel_rfl))
 f172:=Tryz.func95.trans (congrArg some (by kernel_rfl))
 f205:=Tryz.func187.trans (congrArg some (by kernel_rfl))
 f243:=Tryz.func169.trans (congrArg some (by kernel_rfl))
 f244:=Tryz.func129.trans (congrArg some (by kernel_rfl))
 f245:=Tryz.func130.trans (congrArg some (by kernel_rfl))
 f246:=Tryz.func188.trans (congrArg some (by kernel_rfl))
 f247:=Tryz.func164.trans (congrArg some (by kernel_rfl))
 f279:=Tryz.func165.trans (congrArg some (by kernel_rfl))
 f280:=Tryz.func166.trans (congrArg some (by kernel_rfl))
 f281:=Tryz.func167.trans (congrArg some (by kernel_rfl))
 f282:=Tryz.func168.trans (congrArg some (by kernel_rfl))
 f283:=Tryz.func211.trans (congrArg some (by kernel_rfl))
 f284:=Tryz.func212.trans (congrArg some (by kernel_rfl))
 f285:=Tryz.func213.trans (congrArg some (by kernel_rfl))
 f286:=Tryz.func214.trans (congrArg some (by kernel_rfl))
 f287:=Tryz.func185.trans (congrArg some (by kernel_rfl))
 f316:=Tryz.func186.trans (congrArg some (by kernel_rfl))
 f317:=Tryz.func226.trans (congrArg some (by kernel_rfl))
 f318:=Tryz.func227.trans (congrArg some (by kernel_rfl))
 f319:=Tryz.func228.trans (congrArg some (by kernel_rfl))
 f320:=Tryz.func229.trans (congrArg some (by kernel_rfl))
 f321:=Tryz.func209.trans (congrArg some (by kernel_rfl))
 f322:=Tryz.func210.trans (congrArg some (by kernel_rfl))
 f337:=Tryz.func233.trans (congrArg some (by kernel_rfl))
 f338:=Tryz.func234.trans (congrArg some (by kernel_rfl))
 t0:=Tryz.underlying0
 a0:=Tryz.isAgg0
 z0:=Tryz.sizeOf0
 v0:=Tryz.zeroValue0
 t2:=Tryz.underlying2
 a2:=Tryz.isAgg2
 z2:=Tryz.sizeOf2
 v2:=Tryz.zeroValue2
 t3:=Tryz.underlying3
 a3:=Tryz.isAgg3
 z3:=Tryz.sizeOf3
 v3:=Tryz.zeroValue3
 t4:=Tryz.underlying4
 a4:=Tryz.isAgg4
 z4:=Tryz.sizeOf4
 v4:=Tryz.zeroValue4
 t5:=Tryz.underlying5
 a5:=Tryz.isAgg5
 z5:=Tryz.sizeOf5
 v5:=Tryz.zeroValue5
 t9:=Tryz.underlying9
 a9:=Tryz.isAgg9
 z9:=Tryz.sizeOf9
 v9:=Tryz.zeroValue9
 t20:=Tryz.underlying20
 a20:=Tryz.isAgg20
 z20:=Tryz.sizeOf20
 v20:=Tryz.zeroValue20
 t21:=Tryz.underlying21
 a21:=Tryz.isAgg21
 z21:=Tryz.sizeOf21
 v21:=Tryz.zeroValue21
 t37:=Tryz.underlying23
 a37:=Tryz.isAgg23
 z37:=Tryz.sizeOf23
 v37:=Tryz.zeroValue23
 t46:=Tryz.underlying158
 a46:=Tryz.isAgg158
 z46:=Tryz.sizeOf158
 v46:=Tryz.zeroValue158
 t51:=Tryz.underlying219
 a51:=Tryz.isAgg219
 z51:=Tryz.sizeOf219
 v51:=Tryz.zeroValue219
 t53:=Tryz.underlying57
 a53:=Tryz.isAgg57
 z53:=Tryz.sizeOf57
 v53:=Tryz.zeroValue57
 t75:=Tryz.underlying147
 a75:=Tryz.isAgg147
 z75:=Tryz.sizeOf147
 v75:=Tryz.zeroValue147
 t76:=Tryz.underlying148
 a76:=Tryz.isAgg148
 z76:=Tryz.sizeOf148
 v76:=Tryz.zeroValue148
 t85:=Tryz.underlying202
 a85:=Tryz.isAgg202
 z85:=Tryz.sizeOf202
 v85:=Tryz.zeroValue202
 t127:=Tryz.underlying188
 a127:=Tryz.isAgg188
 z127:=Tryz.sizeOf188
 v127:=Tryz.zeroValue188
 t143:=Tryz.underlying255
 a143:=Tryz.isAgg255
 z143:=Tryz.sizeOf255
 v143:=Tryz.zeroValue255
 t145:=Tryz.underlying257
 a145:=Tryz.isAgg257
 z145:=Tryz.sizeOf257
 v145:=Tryz.zeroValue257
 t167:=Tryz.underlying201
 a167:=Tryz.isAgg201
 z167:=Tryz.sizeOf201
 v167:=Tryz.zeroValue201
 t168:=Tryz.underlying204
 a168:=Tryz.isAgg204
 z168:=Tryz.sizeOf204
 v168:=Tryz.zeroValue204
 t171:=Tryz.underlying258
 a171:=Tryz.isAgg258
 z171:=Tryz.sizeOf258
 v171:=Tryz.zeroValue258
 t173:=Tryz.underlying260
 a173:=Tryz.isAgg260
 z173:=Tryz.sizeOf260
 v173:=Tryz.zeroValue260
 t175:=Tryz.underlying227
 a175:=Tryz.isAgg227
 z175:=Tryz.sizeOf227
 v175:=Tryz.zeroValue227
 t210:=Tryz.underlying230
 a210:=Tryz.isAgg230
 z210:=Tryz.sizeOf230
 v210:=Tryz.zeroValue230
 t212:=Tryz.underlying276
 a212:=Tryz.isAgg276
 z212:=Tryz.sizeOf276
 v212:=Tryz.zeroValue276
 t213:=Tryz.underlying277
 a213:=Tryz.isAgg277
 z213:=Tryz.sizeOf277
 t232:=Tryz.underlying178
 a232:=Tryz.isAgg178
 z232:=Tryz.sizeOf178
 v232:=Tryz.zeroValue178
 t233:=Tryz.underlying208
 a233:=Tryz.isAgg208
 z233:=Tryz.sizeOf208
 v233:=Tryz.zeroValue208
 g15:=by kernel_rfl
 g16:=by kernel_rfl
 g17:=by kernel_rfl
 g18:=by kernel_rfl
 g19:=by kernel_rfl
 t80:=Tryz.underlying159
 a80:=Tryz.isAgg159
 z80:=Tryz.sizeOf159
 v80:=Tryz.zeroValue159
 i0:=by kernel_rfl
 i2:=by kernel_rfl
 i3:=by kernel_rfl
 i4:=by kernel_rfl
 i5:=by kernel_rfl
 i9:=by kernel_rfl
 i20:=by kernel_rfl
 i21:=by kernel_rfl
 i37:=by kernel_rfl
 i46:=by kernel_rfl
 i51:=by kernel_rfl
 i53:=by kernel_rfl
 i75:=by kernel_rfl
 i76:=by kernel_rfl
 i80:=by kernel_rfl
 i85:=by kernel_rfl
 i127:=by kernel_rfl
 i143:=by kernel_rfl
 i145:=by kernel_rfl
 i167:=by kernel_rfl
 i168:=by kernel_rfl
 i171:=by kernel_rfl
 i173:=by kernel_rfl
 i175:=by kernel_rfl
 i210:=by kernel_rfl
 i212:=by kernel_rfl
 i232:=by kernel_rfl
 i233:=by kernel_rfl
 m15:=by kernel_rfl
 m16:=by kernel_rfl
 m17:=by kernel_rfl
 m18:=by kernel_rfl
 m19:=by kernel_rfl
 c0:=by kernel_rfl
 c2:=by kernel_rfl
 c3:=by kernel_rfl
 c4:=by kernel_rfl
 c5:=by kernel_rfl
 c9:=by kernel_rfl
 c20:=by kernel_rfl
 c21:=by kernel_rfl
 c37:=by kernel_rfl
 c46:=by kernel_rfl
 c51:=by kernel_rfl
 c53:=by kernel_rfl
 c75:=by kernel_rfl
 c76:=by kernel_rfl
 c80:=by kernel_rfl
 c85:=by kernel_rfl
 c127:=by kernel_rfl
 c143:=by kernel_rfl
 c145:=by kernel_rfl
 c167:=by kernel_rfl
 c168:=by kernel_rfl
 c171:=by kernel_rfl
 c173:=by kernel_rfl
 c175:=by kernel_rfl
 c210:=by kernel_rfl
 c212:=by kernel_rfl
 c213:=by kernel_rfl
 c232:=by kernel_rfl
 c233:=by kernel_rfl}
open Go.RowKit in
theorem Tryz.strconv_Atoi_ok (s:ByteArray) (hmax:s.size≤9223372036854775806) (v:Int) (h:Lib.atoiAll s.data.toList= .ok v) (w:World):
  Calls Tryz.prog 95 #[.string s] w fun e w'=>e= .returned (.tuple #[.int .i64 v,.nilIface])∧(w'=w∨∃t,w'=Lib.bytesWorld w 5 t):=Any.strconv_Atoi_ok Tryz.laysC172 s hmax v h w
open Go.RowKit in
theorem Tryz.strconv_Atoi_syntax (s:ByteArray) (hlim:s.size≤281474976710656) (h:Lib.atoiAll s.data.toList=Lib.atoiAll []) (ev:Value) (w:World) (hv:w.cell? ⟨1,0,none⟩=some ev) (hev:ev= .nilIface∨∃te pe,ev= .iface te pe):
  Calls Tryz.prog 95 #[.string s] w fun e w'=>∃N,e= .returned (.tuple #[.int .i64 (0),.iface 204 (.pointer (some ⟨N,0,none⟩))])∧w.heap.size≤N∧w'.heap[N]? =some (.cells #[.string ⟨#[65,116,111,105]⟩,.string s,ev] 230 (0,0))∧Below w.heap.size w w':=Any.strconv_Atoi_syntax Tryz.laysC172 s hlim (h.trans rfl) ev w hv hev
open Go.RowKit in
theorem Tryz.strconv_Atoi_range (s:ByteArray) (hlim:s.size≤281474976710656) (h:Lib.atoiAll s.data.toList= .range) (ev:Value) (w:World) (hv:w.cell? ⟨2,0,none⟩=some ev) (hev:ev= .nilIface∨∃te pe,ev= .iface te pe):
  Calls Tryz.prog 95 #[.string s] w fun e w'=>∃N,e= .returned (.tuple #[.int .i64 (Lib.atoiSat s.data.toList),.iface 204 (.pointer (some ⟨N,0,none⟩))])∧w.heap.size≤N∧w'.heap[N]? =some (.cells #[.string ⟨#[65,116,111,105]⟩,.string s,ev] 230 (0,0))∧Below w.heap.size w w':=Any.strconv_Atoi_range Tryz.laysC172 s hlim h ev w hv hev
def Tryz.lays219_ren:Go.Shelf.Ren:=⟨fun | 219=>128 | 217=>160 | 225=>161 | 224=>162 | 267=>163 | 266=>183 | 314=>184 |n=>n,fun | 9=>9 | 3=>3 | 4=>4 | 5=>5 | 46=>158 | 146=>225 | 51=>219 |n=>n,fun | 1=>0 |n=>n⟩
theorem Tryz.lays219:Go.Proofs.Lays.n219 Tryz.prog Tryz.lays219_ren:={
 mixed:=by kernel_rfl
 f217:=Tryz.func160.trans (congrArg some (by kernel_rfl))
 f219:=Tryz.func128.trans (congrArg some (by kernel_rfl))
 f224:=Tryz.func162.trans (congrArg some (by kernel_rfl))
 f225:=Tryz.func161.trans (congrArg some (by kernel_rfl))
 f266:=Tryz.func183.trans (congrArg some (by kernel_rfl))
 f267:=Tryz.func163.trans (congrArg some (by kernel_rfl))
 f314:=Tryz.func184.trans (congrArg some (by kernel_rfl))
 t3:=Tryz.underlying3
 a3:=Tryz.isAgg3
 z3:=Tryz.sizeOf3
 v3:=Tryz.zeroValue3
 t4:=Tryz.underlying4
 a4:=Tryz.isAgg4
 z4:=Tryz.sizeOf4
 v4:=Tryz.zeroValue4
 t5:=Tryz.underlying5
 a5:=Tryz.isAgg5
 z5:=Tryz.sizeOf5
 v5:=Tryz.zeroValue5
 t9:=Tryz.underlying9
 a9:=Tryz.isAgg9
 z9:=Tryz.sizeOf9
 v9:=Tryz.zeroValue9
 t46:=Tryz.underlying158
 a46:=Tryz.isAgg158
 z46:=Tryz.sizeOf158
 v46:=Tryz.zeroValue158
 t51:=Tryz.underlying219
 a51:=Tryz.isAgg219
 z51:=Tryz.sizeOf219
 v51:=Tryz.zeroValue219
 t146:=Tryz.underlying225
 a146:=Tryz.isAgg225
 z146:=Tryz.sizeOf225
 v146:=Tryz.zeroValue225
 g1:=by kernel_rfl}
open Go.RowKit Go.Lib in
theorem Tryz.stringslite_Index_one (s:ByteArray) (c:UInt8) (w:World):
  Calls Tryz.prog 128 #[.string s,.string ⟨#[c]⟩] w fun e w'=>e= .returned (.int .i64 (Lib.indexByte s.data.toList c))∧w'=w:=Any.stringslite_Index_one Tryz.lays219 s c w
def Tryz.lays143_ren:Go.Shelf.Ren:=⟨fun | 143=>94 | 219=>128 | 217=>160 | 225=>161 | 224=>162 | 267=>163 | 266=>183 | 314=>184 |n=>n,fun | 9=>9 | 3=>3 | 4=>4 | 5=>5 | 46=>158 | 146=>225 | 51=>219 |n=>n,fun | 1=>0 |n=>n⟩
theorem Tryz.lays143:Go.Proofs.Lays.n143 Tryz.prog Tryz.lays143_ren:={
 mixed:=by kernel_rfl
 f143:=Tryz.func94.trans (congrArg some (by kernel_rfl))
 f217:=Tryz.func160.trans (congrArg some (by kernel_rfl))
 f219:=Tryz.func128.trans (congrArg some (by kernel_rfl))
 f224:=Tryz.func162.trans (congrArg some (by kernel_rfl))
 f225:=Tryz.func161.trans (congrArg some (by kernel_rfl))
 f266:=Tryz.func183.trans (congrArg some (by kernel_rfl))
 f267:=Tryz.func163.trans (congrArg some (by kernel_rfl))
 f314:=Tryz.func184.trans (congrArg some (by kernel_rfl))
 t3:=Tryz.underlying3
 a3:=Tryz.isAgg3
 z3:=Tryz.sizeOf3
 v3:=Tryz.zeroValue3
 t4:=Tryz.underlying4
 a4:=Tryz.isAgg4
 z4:=Tryz.sizeOf4
 v4:=Tryz.zeroValue4
 t5:=Tryz.underlying5
 a5:=Tryz.isAgg5
 z5:=Tryz.sizeOf5
 v5:=Tryz.zeroValue5
 t9:=Tryz.underlying9
 a9:=Tryz.isAgg9
 z9:=Tryz.sizeOf9
 v9:=Tryz.zeroValue9
 t46:=Tryz.underlying158
 a46:=Tryz.isAgg158
 z46:=Tryz.sizeOf158
 v46:=Tryz.zeroValue158
 t51:=Tryz.underlying219
 a51:=Tryz.isAgg219
 z51:=Tryz.sizeOf219
 v51:=Tryz.zeroValue219
 t146:=Tryz.underlying225
 a146:=Tryz.isAgg225
 z146:=Tryz.sizeOf225
 v146:=Tryz.zeroValue225
 g1:=by kernel_rfl}
open Go.RowKit Go.Lib in
theorem Tryz.strings_Index (s sub:ByteArray) (m:Int) (w:World) (hs:s.size<4294967281) (hm:w.cell? ⟨0,0,none⟩=some (.int .i64 m)):
  Calls Tryz.prog 94 #[.string s,.string sub] w fun e w'=>e= .returned (.int .i64 (Lib.index s.data.toList sub.data.toList))∧w'=w:=Any.strings_Index Tryz.lays143 s sub m w hs hm
def Tryz.lays144_ren:Go.Shelf.Ren:=⟨fun | 144=>60 | 143=>94 | 219=>128 | 217=>160 | 225=>161 | 224=>162 | 267=>163 | 266=>183 | 314=>184 |n=>n,fun | 9=>9 | 4=>4 | 3=>3 | 5=>5 | 46=>158 | 146=>225 | 51=>219 |n=>n,fun | 1=>0 |n=>n⟩
theorem Tryz.lays144:Go.Proofs.Lays.n144 Tryz.prog Tryz.lays144_ren:={
 mixed:=by kernel_rfl
 f143:=Tryz.func94.trans (congrArg some (by kernel_rfl))
 f144:=Tryz.func60.trans (congrArg some (by kernel_rfl))
 f217:=Tryz.func160.trans (congrArg some (by kernel_rfl))
 f219:=Tryz.func128.trans (congrArg some (by kernel_rfl))
 f224:=Tryz.func162.trans (congrArg some (by kernel_rfl))
 f225:=Tryz.func161.trans (congrArg some (by kernel_rfl))
 f266:=Tryz.func183.trans (congrArg some (by kernel_rfl))
 f267:=Tryz.func163.trans (congrArg some (by kernel_rfl))
 f314:=Tryz.func184.trans (congrArg some (by kernel_rfl))
 t3:=Tryz.underlying3
 a3:=Tryz.isAgg3
 z3:=Tryz.sizeOf3
 v3:=Tryz.zeroValue3
 t4:=Tryz.underlying4
 a4:=Tryz.isAgg4
 z4:=Tryz.sizeOf4
 v4:=Tryz.zeroValue4
 t5:=Tryz.underlying5
 a5:=Tryz.isAgg5
 z5:=Tryz.sizeOf5
 v5:=Tryz.zeroValue5
 t9:=Tryz.underlying9
 a9:=Tryz.isAgg9
 z9:=Tryz.sizeOf9
 v9:=Tryz.zeroValue9
 t46:=Tryz.underlying158
 a46:=Tryz.isAgg158
 z46:=Tryz.sizeOf158
 v46:=Tryz.zeroValue158
 t51:=Tryz.underlying219
 a51:=Tryz.isAgg219
 z51:=Tryz.sizeOf219
 v51:=Tryz.zeroValue219
 t146:=Tryz.underlying225
 a146:=Tryz.isAgg225
 z146:=Tryz.sizeOf225
 v146:=Tryz.zeroValue225
 g1:=by kernel_rfl}
open Go.RowKit Go.Lib in
theorem Tryz.strings_Contains_one (s:ByteArray) (c:UInt8) (w:World):
  Calls Tryz.prog 60 #[.string s,.string ⟨#[c]⟩] w fun e w'=>e= .returned (.bool (decide (0≤Lib.indexByte s.data.toList c)))∧w'=w:=Any.strings_Contains_one Tryz.lays144 s c w
def Tryz.laysGw15_ren:Go.Shelf.Ren:=⟨fun | 15=>106 | 20=>137 |n=>n,fun | 9=>9 | 23=>161 | 3=>3 | 4=>4 | 0=>0 | 21=>21 |n=>n,fun |n=>n⟩
theorem Tryz.laysGw15:Go.Proofs.LaysGw.n15 Tryz.prog Tryz.laysGw15_ren:={
 mixed:=by kernel_rfl
 f15:=Tryz.func106.trans (congrArg some (by kernel_rfl))
 f20:=Tryz.func137.trans (congrArg some (by kernel_rfl))
 t0:=Tryz.underlying0
 a0:=Tryz.isAgg0
 z0:=Tryz.sizeOf0
 v0:=Tryz.zeroValue0
 i0:=by kernel_rfl
 t3:=Tryz.underlying3
 a3:=Tryz.isAgg3
 z3:=Tryz.sizeOf3
 v3:=Tryz.zeroValue3
 i3:=by kernel_rfl
 t4:=Tryz.underlying4
 a4:=Tryz.isAgg4
 z4:=Tryz.sizeOf4
 v4:=Tryz.zeroValue4
 i4:=by kernel_rfl
 t9:=Tryz.underlying9
 a9:=Tryz.isAgg9
 z9:=Tryz.sizeOf9
 v9:=Tryz.zeroValue9
 i9:=by kernel_rfl
 t21:=Tryz.underlying21
 a21:=Tryz.isAgg21
 z21:=Tryz.sizeOf21
 v21:=Tryz.zeroValue21
 i21:=by kernel_rfl
 t23:=Tryz.underlying161
 a23:=Tryz.isAgg161
 z23:=Tryz.sizeOf161
 v23:=Tryz.zeroValue161
 i23:=by kernel_rfl}
open Go.RowKit Go.Lib in
theorem Tryz.strings_IndexFunc (g:Nat) (lb:Array Value) (eg:∀args w,(callFunc g args).run Tryz.prog w= .ok (.enter g args) w) (p:Nat→Bool) (s:ByteArray) (w:World) (hp:PredAt Tryz.prog g lb encR p w):
  Calls Tryz.prog 106 #[.string s,.func (.func g) #[] lb] w fun e w'=>e= .returned (.int .i64 (Lib.idxFunc p true s))∧Below w.heap.size w w':=Any.strings_IndexFunc Tryz.laysGw15 g lb eg p s w hp
def Tryz.lays146_ren:Go.Shelf.Ren:=⟨fun | 146=>148 | 221=>175 | 268=>204 | 138=>205 | 143=>94 | 195=>223 | 197=>224 | 218=>225 | 219=>128 | 260=>232 | 217=>160 | 225=>161 | 224=>162 | 267=>163 | 266=>183 | 314=>184 |n=>n,fun | 9=>9 | 31=>33 | 3=>3 | 4=>4 | 0=>0 | 105=>273 | 21=>21 | 5=>5 | 46=>158 | 119=>282 | 139=>285 | 138=>284 | 146=>225 | 51=>219 |n=>n,fun | 1=>0 | 3=>4 | 4=>5 |n=>n⟩
theorem Tryz.lays146:Go.Proofs.Lays.n146 Tryz.prog Tryz.lays146_ren:={
 mixed:=by kernel_rfl
 f138:=Tryz.func205.trans (congrArg some (by kernel_rfl))
 f143:=Tryz.func94.trans (congrArg some (by kernel_rfl))
 f146:=Tryz.func148.trans (congrArg some (by kernel_rfl))
 f195:=Tryz.func223.trans (congrArg some (by kernel_rfl))
 f197:=Tryz.func224.trans (congrArg some (by kernel_rfl))
 f217:=Tryz.func160.trans (congrArg some (by kernel_rfl))
 f218:=Tryz.func225.trans (congrArg some (by kernel_rfl))
 f219:=Tryz.func128.trans (congrArg some (by kernel_rfl))
 f221:=Tryz.func175.trans (congrArg some (by kernel_rfl))
 f224:=Tryz.func162.trans (congrArg some (by kernel_rfl))
 f225:=Tryz.func161.trans (congrArg some (by kernel_rfl))
 f260:=Tryz.func232.trans (congrArg some (by kernel_rfl))
 f266:=Tryz.func183.trans (congrArg some (by kernel_rfl))
 f267:=Tryz.func163.trans (congrArg some (by kernel_rfl))
 f268:=Tryz.func204.trans (congrArg some (by kernel_rfl))
 f314:=Tryz.func184.trans (congrArg some (by kernel_rfl))
 t0:=Tryz.underlying0
 a0:=Tryz.isAgg0
 z0:=Tryz.sizeOf0
 v0:=Tryz.zeroValue0
 t3:=Tryz.underlying3
 a3:=Tryz.isAgg3
 z3:=Tryz.sizeOf3
 v3:=Tryz.zeroValue3
 t4:=Tryz.underlying4
 a4:=Tryz.isAgg4
 z4:=Tryz.sizeOf4
 v4:=Tryz.zeroValue4
 t5:=Tryz.underlying5
 a5:=Tryz.isAgg5
 z5:=Tryz.sizeOf5
 v5:=Tryz.zeroValue5
 t9:=Tryz.underlying9
 a9:=Tryz.isAgg9
 z9:=Tryz.sizeOf9
 v9:=Tryz.zeroValue9
 t21:=Tryz.underlying21
 a21:=Tryz.isAgg21
 z21:=Tryz.sizeOf21
 v21:=Tryz.zeroValue21
 t31:=Tryz.underlying33
 a31:=Tryz.isAgg33
 z31:=Tryz.sizeOf33
 v31:=Tryz.zeroValue33
 t46:=Tryz.underlying158
 a46:=Tryz.isAgg158
 z46:=Tryz.sizeOf158
 v46:=Tryz.zeroValue158
 t51:=Tryz.underlying219
 a51:=Tryz.isAgg219
 z51:=Tryz.sizeOf219
 v51:=Tryz.zeroValue219
 t105:=Tryz.underlying273
 a105:=Tryz.isAgg273
 z105:=Tryz.sizeOf273
 v105:=Tryz.zeroValue273
 t119:=Tryz.underlying282
 a119:=Tryz.isAgg282
 z119:=Tryz.sizeOf282
 t138:=Tryz.underlying284
 a138:=Tryz.isAgg284
 z138:=Tryz.sizeOf284
 v138:=Tryz.zeroValue284
 t139:=Tryz.underlying285
 a139:=Tryz.isAgg285
 z139:=Tryz.sizeOf285
 v139:=Tryz.zeroValue285
 t146:=Tryz.underlying225
 a146:=Tryz.isAgg225
 z146:=Tryz.sizeOf225
 v146:=Tryz.zeroValue225
 g1:=by kernel_rfl
 g3:=by kernel_rfl
 g4:=by kernel_rfl}
open Go.RowKit Go.Lib in
theorem Tryz.strings_Split (s sep:ByteArray) (m:Int) (w:World) (hs:s.size<4294967281) (hm:w.cell? ⟨0,0,none⟩=some (.int .i64 m)) (h1:1≤sep.size):
  Calls Tryz.prog 148 #[.string s,.string sep] w fun e w'=>
   e= .returned (.slice (some ⟨w.heap.size,0,none⟩) (Lib.countB s sep+1) (Lib.countB s sep+1))∧w'=w.alloc (.cells ((Lib.splitB sep 0 (Lib.countB s sep) s).map Value.string).toArray 9):=Any.strings_Split Tryz.lays146 (by kernel_rfl) s sep m w hs hm h1
def Tryz.lays109_ren:Go.Shelf.Ren:=⟨fun | 109=>61 |n=>n,fun | 31=>33 | 9=>9 | 3=>3 | 0=>0 | 4=>4 |n=>n,fun |n=>n⟩
theorem Tryz.lays109:Go.Proofs.Lays.n109 Tryz.prog Tryz.lays109_ren:={
 mixed:=by kernel_rfl
 f109:=Tryz.func61.trans (congrArg some (by kernel_rfl))
 t0:=Tryz.underlying0
 a0:=Tryz.isAgg0
 z0:=Tryz.sizeOf0
 v0:=Tryz.zeroValue0
 t3:=Tryz.underlying3
 a3:=Tryz.isAgg3
 z3:=Tryz.sizeOf3
 v3:=Tryz.zeroValue3
 t4:=Tryz.underlying4
 a4:=Tryz.isAgg4
 z4:=Tryz.sizeOf4
 v4:=Tryz.zeroValue4
 t9:=Tryz.underlying9
 a9:=Tryz.isAgg9
 z9:=Tryz.sizeOf9
 v9:=Tryz.zeroValue9
 t31:=Tryz.underlying33
 a31:=Tryz.isAgg33
 z31:=Tryz.sizeOf33
 v31:=Tryz.zeroValue33}
open Go.Lib in
theorem Tryz.slices_Index_string (b off n c:Nat) (zs:List ByteArray) (x:ByteArray) (w:World) (hz:n≤zs.length) (hbig:n≤9223372036854775807) (hc:∀j,j<zs.length→w.cell? ⟨b,off+j,none⟩=some (.string (zs.getD j ByteArray.empty))):
  Calls Tryz.prog 61 #[.slice (some ⟨b,off,none⟩) n c,.string x] w fun e w'=>e= .returned (.int .i64 (Lib.idxOfS (zs.take n) x))∧w'=w:=Any.slices_Index_string Tryz.lays109 b off n c zs x w hz hbig hc
open Go.Lib in
theorem Tryz.slices_Index_string_empty (a:Option Addr) (c:Nat) (x:ByteArray) (w:World):
  Calls Tryz.prog 61 #[.slice a 0 c,.string x] w fun e w'=>e= .returned (.int .i64 (Lib.idxOfS [] x))∧w'=w:=Any.slices_Index_string_empty Tryz.lays109 a c x w
def Tryz.lays110_ren:Go.Shelf.Ren:=⟨fun | 110=>110 | 109=>61 |n=>n,fun | 31=>33 | 9=>9 | 4=>4 | 3=>3 | 0=>0 |n=>n,fun |n=>n⟩
theorem Tryz.lays110:Go.Proofs.Lays.n110 Tryz.prog Tryz.lays110_ren:={
 mixed:=by kernel_rfl
 f109:=Tryz.func61.trans (congrArg some (by kernel_rfl))
 f110:=Tryz.func110.trans (congrArg some (by kernel_rfl))
 t0:=Tryz.underlying0
 a0:=Tryz.isAgg0
 z0:=Tryz.sizeOf0
 v0:=Tryz.zeroValue0
 t3:=Tryz.underlying3
 a3:=Tryz.isAgg3
 z3:=Tryz.sizeOf3
 v3:=Tryz.zeroValue3
 t4:=Tryz.underlying4
 a4:=Tryz.isAgg4
 z4:=Tryz.sizeOf4
 v4:=Tryz.zeroValue4
 t9:=Tryz.underlying9
 a9:=Tryz.isAgg9
 z9:=Tryz.sizeOf9
 v9:=Tryz.zeroValue9
 t31:=Tryz.underlying33
 a31:=Tryz.isAgg33
 z31:=Tryz.sizeOf33
 v31:=Tryz.zeroValue33}
open Go.Lib in
theorem Tryz.slices_Contains_string (b off n c:Nat) (zs:List ByteArray) (x:ByteArray) (w:World) (hz:n≤zs.length) (hbig:n≤9223372036854775807) (hc:∀j,j<zs.length→w.cell? ⟨b,off+j,none⟩=some (.string (zs.getD j ByteArray.empty))):
  Calls Tryz.prog 110 #[.slice (some ⟨b,off,none⟩) n c,.string x] w fun e w'=>e= .returned (.bool (Lib.containsS (zs.take n) x))∧w'=w:=Any.slices_Contains_string Tryz.lays110 b off n c zs x w hz hbig hc
open Go.Lib in
theorem Tryz.slices_Contains_string_empty (a:Option Addr) (c:Nat) (x:ByteArray) (w:World):
  Calls Tryz.prog 110 #[.slice a 0 c,.string x] w fun e w'=>e= .returned (.bool false)∧w'=w:=Any.slices_Contains_string_empty Tryz.lays110 a c x w
end Go.Proofs
