/-
  DERIVED: THE SHELF's CONTRACTS AT THIS DUMP, IN PLAIN WORDS (tools/lay-plain.mjs out of 'YtopfcgpeaaehgaaGreatDoorGz.lean', which tools/lay-shelf.mjs wrote): THE SAME DECLARATIONS UNDER THE SAME NAMES: 'import', 'namespace', 'open', 'def', 'theorem' AND NOTHING ELSE: no command of the shelf's: FOR A HAND-IN. Each laying: the table of numbers ('.._ren') and one theorem, a field a fact of the dump's own or the kernel's comparison; each contract: ONE APPLICATION.
-/
import Derived.Shelf.Strings.Builder1
import Derived.Shelf.Strings.Builder2
import Derived.Shelf.Strings.OnBuilder
import Derived.Shelf.Small.Bits
import Derived.Shelf.Small.Strs
import Derived.Shelf.Strconv.Itoa0
import Derived.Shelf.Strconv.Itoa1
import Derived.Shelf.LaysM
import Derived.Shelf.Strings.Search1
import Derived.Shelf.Strings.Search2
import Derived.Shelf.Strings.Search3
import Derived.Shelf.Strings.Cut
import Derived.Shelf.Strings.Count
import Derived.Shelf.Strings.Shaped
import Derived.Shelf.Sort.Plain
import Derived.Shelf.Unicode.DecodeSlow
import Derived.Shelf.Slices.Equal
import Derived.Ground.Names2Prog
import Derived.Shelf.Slices.Clone
import Derived.Ground.SlgnProg
import Derived.Shelf.SlicesE.Clone
import Derived.Test.YtopfcgpeaaehgaaGreatDoorProg
namespace Go.Proofs
open Go.Shelf
def Tryz.lays156_ren:Go.Shelf.Ren:=⟨fun | 156=>109 | 165=>140 | 166=>103 | 169=>104 | 240=>136 | 241=>174 | 276=>171 | 277=>203 |n=>n,fun | 31=>33 | 9=>9 | 3=>3 | 4=>4 | 0=>0 | 20=>20 | 72=>156 | 76=>148 | 70=>154 | 37=>23 | 75=>147 | 127=>188 | 164=>210 | 5=>5 | 80=>159 |n=>n,fun |n=>n⟩
theorem Tryz.lays156:Go.Proofs.Lays.n156 Tryz.prog Tryz.lays156_ren:={
 mixed:=by kernel_rfl
 f156:=Tryz.func109.trans (congrArg some (by kernel_rfl))
 f165:=Tryz.func140.trans (congrArg some (by kernel_rfl))
 f166:=Tryz.func103.trans (congrArg some (by kernel_rfl))
 f169:=Tryz.func104.trans (congrArg some (by kernel_rfl))
 f240:=Tryz.func136.trans (congrArg some (by kernel_rfl))
 f241:=Tryz.func174.trans (congrArg some (by kernel_rfl))
 f276:=Tryz.func171.trans (congrArg some (by kernel_rfl))
 f277:=Tryz.func203.trans (congrArg some (by kernel_rfl))
 t0:=Tryz.underlying0
 a0:=Tryz.isAgg0
 z0:=Tryz.sizeOf0
 v0:=Tryz.zeroValue0
 t3:=Tryz.underlying3
 a3:=Tryz.isAgg3
 z3:=Tryz.sizeOf3
 v3:=Tryz.zeroValue3
 t4:=Tryz.underlying4
 a4:=Tryz.isAgg4
 z4:=Tryz.sizeOf4
 v4:=Tryz.zeroValue4
 t9:=Tryz.underlying9
 a9:=Tryz.isAgg9
 z9:=Tryz.sizeOf9
 v9:=Tryz.zeroValue9
 t20:=Tryz.underlying20
 a20:=Tryz.isAgg20
 z20:=Tryz.sizeOf20
 v20:=Tryz.zeroValue20
 t31:=Tryz.underlying33
 a31:=Tryz.isAgg33
 z31:=Tryz.sizeOf33
 v31:=Tryz.zeroValue33
 t37:=Tryz.underlying23
 a37:=Tryz.isAgg23
 z37:=Tryz.sizeOf23
 v37:=Tryz.zeroValue23
 t70:=Tryz.underlying154
 a70:=Tryz.isAgg154
 z70:=Tryz.sizeOf154
 v70:=Tryz.zeroValue154
 t72:=Tryz.underlying156
 a72:=Tryz.isAgg156
 z72:=Tryz.sizeOf156
 v72:=Tryz.zeroValue156
 t75:=Tryz.underlying147
 a75:=Tryz.isAgg147
 z75:=Tryz.sizeOf147
 v75:=Tryz.zeroValue147
 t76:=Tryz.underlying148
 a76:=Tryz.isAgg148
 z76:=Tryz.sizeOf148
 v76:=Tryz.zeroValue148
 t127:=Tryz.underlying188
 a127:=Tryz.isAgg188
 z127:=Tryz.sizeOf188
 v127:=Tryz.zeroValue188
 t164:=Tryz.underlying210
 a164:=Tryz.isAgg210
 z164:=Tryz.sizeOf210
 v164:=Tryz.zeroValue210}
theorem Tryz.Builder_Extra_156:Builder.Extra Tryz.prog Tryz.lays156_ren:={
 sizeBuilder:=by kernel_rfl
 liesBuilder:=by kernel_rfl
 t5:=Tryz.underlying5
 a5:=Tryz.isAgg5
 z5:=Tryz.sizeOf5
 v5:=Tryz.zeroValue5
 infoByte:=by kernel_rfl
 cellsByte:=by kernel_rfl
 sizeByte:=by kernel_rfl
 neB5:=by decide}
open Go.RowKit in
theorem Tryz.strings_Join_none (a:Option Addr) (c:Nat) (sep:ByteArray) (w:World):
  Calls Tryz.prog 109 #[.slice a 0 c,.string sep] w fun e w'=>e= .returned (.string ⟨#[]⟩)∧w'=w:=Any.strings_Join_none Tryz.lays156 Tryz.Builder_Extra_156 a c sep w
open Go.RowKit in
theorem Tryz.strings_Join (bk o c:Nat) (xs:List ByteArray) (sep:ByteArray) (w:World) (hcells:∀(j:Nat) x,xs[j]? =some x→w.cell? ⟨bk,o+j,none⟩=some (.string x)) (hbk:bk<w.heap.size) (hN:xs.length≤140737488355328) (hcap:xs.length≤c) (hlen:(Lib.join (xs.map (·.data.toList)) sep.data.toList).length≤140737488355328):
  Calls Tryz.prog 109 #[.slice (some ⟨bk,o,none⟩) xs.length c,.string sep] w fun e w'=>e= .returned (.string ⟨(Lib.join (xs.map (·.data.toList)) sep.data.toList).toArray⟩)∧Below w.heap.size w w':=Any.strings_Join Tryz.lays156 Tryz.Builder_Extra_156 bk o c xs sep w hcells hbk hN hcap hlen
open Go.RowKit in
def Tryz.lays190_ren:Go.Shelf.Ren:=⟨fun | 190=>139 | 125=>173 | 258=>172 | 128=>201 | 129=>202 | 302=>192 | 303=>193 | 304=>194 | 305=>195 | 306=>196 | 307=>197 | 308=>198 | 309=>199 | 310=>200 | 333=>217 | 329=>218 | 330=>219 | 334=>220 | 335=>221 | 336=>222 | 344=>231 |n=>n,fun | 31=>33 | 9=>9 | 3=>3 | 46=>158 | 0=>0 | 51=>219 | 53=>57 | 4=>4 | 183=>240 | 182=>239 | 131=>244 | 5=>5 | 218=>266 | 222=>270 | 228=>279 | 229=>280 |n=>n,fun |n=>n⟩
theorem Tryz.lays190:Go.Proofs.Lays.n190 Tryz.prog Tryz.lays190_ren:={
 mixed:=by kernel_rfl
 f125:=Tryz.func173.trans (congrArg some (by kernel_rfl))
 f128:=Tryz.func201.trans (congrArg some (by kernel_rfl))
 f129:=Tryz.func202.trans (congrArg some (by kernel_rfl))
 f190:=Tryz.func139.trans (congrArg some (by kernel_rfl))
 f258:=Tryz.func172.trans (congrArg some (by kernel_rfl))
 f302:=Tryz.func192.trans (congrArg some (by kernel_rfl))
 f303:=Tryz.func193.trans (congrArg some (by kernel_rfl))
 f304:=Tryz.func194.trans (congrArg some (by kernel_rfl))
 f305:=Tryz.func195.trans (congrArg some (by kernel_rfl))
 f306:=Tryz.func196.trans (congrArg some (by kernel_rfl))
 f307:=Tryz.func197.trans (congrArg some (by kernel_rfl))
 f308:=Tryz.func198.trans (congrArg some (by kernel_rfl))
 f309:=Tryz.func199.trans (congrArg some (by kernel_rfl))
 f310:=Tryz.func200.trans (congrArg some (by kernel_rfl))
 f329:=Tryz.func218.trans (congrArg some (by kernel_rfl))
 f330:=Tryz.func219.trans (congrArg some (by kernel_rfl))
 f333:=Tryz.func217.trans (congrArg some (by kernel_rfl))
 f334:=Tryz.func220.trans (congrArg some (by kernel_rfl))
 f335:=Tryz.func221.trans (congrArg some (by kernel_rfl))
 f336:=Tryz.func222.trans (congrArg some (by kernel_rfl))
 f344:=Tryz.func231.trans (congrArg some (by kernel_rfl))
 t0:=Tryz.underlying0
 a0:=Tryz.isAgg0
 z0:=Tryz.sizeOf0
 v0:=Tryz.zeroValue0
 t3:=Tryz.underlying3
 a3:=Tryz.isAgg3
 z3:=Tryz.sizeOf3
 v3:=Tryz.zeroValue3
 t4:=Tryz.underlying4
 a4:=Tryz.isAgg4
 z4:=Tryz.sizeOf4
 v4:=Tryz.zeroValue4
 t5:=Tryz.underlying5
 a5:=Tryz.isAgg5
 z5:=Tryz.sizeOf5
 v5:=Tryz.zeroValue5
 t9:=Tryz.underlying9
 a9:=Tryz.isAgg9
 z9:=Tryz.sizeOf9
 v9:=Tryz.zeroValue9
 t31:=Tryz.underlying33
 a31:=Tryz.isAgg33
 z31:=Tryz.sizeOf33
 v31:=Tryz.zeroValue33
 t46:=Tryz.underlying158
 a46:=Tryz.isAgg158
 z46:=Tryz.sizeOf158
 v46:=Tryz.zeroValue158
 t51:=Tryz.underlying219
 a51:=Tryz.isAgg219
 z51:=Tryz.sizeOf219
 v51:=Tryz.zeroValue219
 t53:=Tryz.underlying57
 a53:=Tryz.isAgg57
 z53:=Tryz.sizeOf57
 v53:=Tryz.zeroValue57
 t131:=Tryz.underlying244
 a131:=Tryz.isAgg244
 z131:=Tryz.sizeOf244
 v131:=Tryz.zeroValue244
 t182:=Tryz.underlying239
 a182:=Tryz.isAgg239
 z182:=Tryz.sizeOf239
 v182:=Tryz.zeroValue239
 t183:=Tryz.underlying240
 a183:=Tryz.isAgg240
 z183:=Tryz.sizeOf240
 v183:=Tryz.zeroValue240
 t218:=Tryz.underlying266
 a218:=Tryz.isAgg266
 z218:=Tryz.sizeOf266
 v218:=Tryz.zeroValue266
 t222:=Tryz.underlying270
 a222:=Tryz.isAgg270
 z222:=Tryz.sizeOf270
 v222:=Tryz.zeroValue270
 t228:=Tryz.underlying279
 a228:=Tryz.isAgg279
 z228:=Tryz.sizeOf279
 v228:=Tryz.zeroValue279
 t229:=Tryz.underlying280
 a229:=Tryz.isAgg280
 z229:=Tryz.sizeOf280
 v229:=Tryz.zeroValue280}
open Go.Sort Go.RowKit in
theorem Tryz.slices_Sort_string (blk off cap:Nat) (ss:List (List UInt8)) (w:World) (hH:Holds encStr w blk off ss.toArray) (hblk:blk<w.heap.size) (hsz:ss.length<4611686018427387904):
  Calls Tryz.prog 139 #[.slice (some ⟨blk,off,none⟩) ss.length cap] w fun e w'=>
   e= .returned (.tuple #[])∧∃n os,w'=grow (putRow encStr (Sort.ahead w n) blk off (ss.mergeSort fun x y=>decide (x≤y)).toArray) os:=Any.slices_Sort_string Tryz.lays190 blk off cap ss w hH hblk hsz
open Go.RowKit Go.Lib in
open Go.RowKit Go.Lib in
def Tryz.laysNm216_ren:Go.Shelf.Ren:=⟨fun | 16=>65 |n=>n,fun | 24=>33 | 9=>9 | 4=>4 |n=>n,fun |n=>n⟩
theorem Tryz.laysNm216:Go.Proofs.Lays2.n16 Tryz.prog Tryz.laysNm216_ren:={
 mixed:=by kernel_rfl
 f16:=Tryz.func65.trans (congrArg some (by kernel_rfl))
 t4:=Tryz.underlying4
 a4:=Tryz.isAgg4
 z4:=Tryz.sizeOf4
 v4:=Tryz.zeroValue4
 t9:=Tryz.underlying9
 a9:=Tryz.isAgg9
 z9:=Tryz.sizeOf9
 v9:=Tryz.zeroValue9
 t24:=Tryz.underlying33
 a24:=Tryz.isAgg33
 z24:=Tryz.sizeOf33
 v24:=Tryz.zeroValue33
 i9:=by kernel_rfl}
open Go.RowKit Go.Lib in
theorem Tryz.slices_Clone_string (b off n c:Nat) (zs:List ByteArray) (w:World) (hz:n≤zs.length) (hbig:n*16≤140737488355328) (hc:∀j,j<zs.length→w.cell? ⟨b,off+j,none⟩=some (.string (zs.getD j ByteArray.empty))):
  Calls Tryz.prog 65 #[.slice (some ⟨b,off,none⟩) n c] w fun e w'=>∃v',e= .returned v'∧w'.ownsRow w.heap.size 9 1 v' n ((zs.take n).map (Value.string))∧v'≠ .slice none 0 0∧Below w.heap.size w w':=Any.slices_Clone_string Tryz.laysNm216 b off n c zs w hz hbig hc
open Go.RowKit Go.Lib in
theorem Tryz.slices_Clone_string_nil (n c:Nat) (w:World):
  Calls Tryz.prog 65 #[.slice none n c] w fun e w'=>e= .returned (.slice none 0 0)∧w'=w:=Any.slices_Clone_string_nil Tryz.laysNm216 n c w
open Go.RowKit Go.Lib in
theorem Tryz.slices_Clone_string_zero (a:Addr) (c:Nat) (w:World):
  Calls Tryz.prog 65 #[.slice (some a) 0 c] w fun e w'=>∃v',e= .returned v'∧w'.ownsRow w.heap.size 9 1 v' 0 []∧v'≠ .slice none 0 0∧Below w.heap.size w w':=Any.slices_Clone_string_zero Tryz.laysNm216 a c w
end Go.Proofs
