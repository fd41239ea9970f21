/-
  DERIVED: THE SHELF's CONTRACTS AT THIS DUMP, IN PLAIN WORDS (tools/lay-plain.mjs out of 'YtpmgepijkhaonaaGreatGz.lean', which tools/lay-shelf.mjs wrote): THE SAME DECLARATIONS UNDER THE SAME NAMES: 'import', 'namespace', 'open', 'def', 'theorem' AND NOTHING ELSE: no command of the shelf's: FOR A HAND-IN. Each laying: the table of numbers ('.._ren') and one theorem, a field a fact of the dump's own or the kernel's comparison; each contract: ONE APPLICATION.
-/
import Derived.Shelf.Strings.Builder1
import Derived.Shelf.Strings.Builder2
import Derived.Shelf.Strings.OnBuilder
import Derived.Shelf.Small.Bits
import Derived.Shelf.Small.Strs
import Derived.Shelf.Strconv.Itoa0
import Derived.Shelf.Strings.Search1
import Derived.Shelf.Sort.Plain
import Derived.Shelf.Slices.Reverse
import Derived.Shelf.Slices.Equal
import Derived.Ground.Names2Prog
import Derived.Shelf.Slices.Clone
import Derived.Shelf.Slices.SearchI
import Derived.Shelf.Slices.Cells
import Derived.Shelf.Slices.Empties
import Derived.Ground.SlgnProg
import Derived.Shelf.SlicesE.Clone
import Derived.Test.YtpmgepijkhaonaaGreatProg
namespace Go.Proofs
open Go.Shelf
def Tryz.lays156_ren:Go.Shelf.Ren:=⟨fun | 156=>200 | 165=>240 | 166=>241 | 169=>242 | 240=>278 | 241=>279 | 276=>297 | 277=>298 |n=>n,fun | 31=>22 | 9=>9 | 3=>3 | 4=>4 | 0=>0 | 20=>20 | 72=>310 | 76=>313 | 70=>308 | 37=>42 | 75=>312 | 127=>341 | 164=>356 | 5=>5 | 80=>106 |n=>n,fun |n=>n⟩
theorem Tryz.lays156:Go.Proofs.Lays.n156 Tryz.prog Tryz.lays156_ren:={
 mixed:=by kernel_rfl
 f156:=Tryz.func200.trans (congrArg some (by kernel_rfl))
 f165:=Tryz.func240.trans (congrArg some (by kernel_rfl))
 f166:=Tryz.func241.trans (congrArg some (by kernel_rfl))
 f169:=Tryz.func242.trans (congrArg some (by kernel_rfl))
 f240:=Tryz.func278.trans (congrArg some (by kernel_rfl))
 f241:=Tryz.func279.trans (congrArg some (by kernel_rfl))
 f276:=Tryz.func297.trans (congrArg some (by kernel_rfl))
 f277:=Tryz.func298.trans (congrArg some (by kernel_rfl))
 t0:=Tryz.underlying0
 a0:=Tryz.isAgg0
 z0:=Tryz.sizeOf0
 v0:=Tryz.zeroValue0
 t3:=Tryz.underlying3
 a3:=Tryz.isAgg3
 z3:=Tryz.sizeOf3
 v3:=Tryz.zeroValue3
 t4:=Tryz.underlying4
 a4:=Tryz.isAgg4
 z4:=Tryz.sizeOf4
 v4:=Tryz.zeroValue4
 t9:=Tryz.underlying9
 a9:=Tryz.isAgg9
 z9:=Tryz.sizeOf9
 v9:=Tryz.zeroValue9
 t20:=Tryz.underlying20
 a20:=Tryz.isAgg20
 z20:=Tryz.sizeOf20
 v20:=Tryz.zeroValue20
 t31:=Tryz.underlying22
 a31:=Tryz.isAgg22
 z31:=Tryz.sizeOf22
 v31:=Tryz.zeroValue22
 t37:=Tryz.underlying42
 a37:=Tryz.isAgg42
 z37:=Tryz.sizeOf42
 v37:=Tryz.zeroValue42
 t70:=Tryz.underlying308
 a70:=Tryz.isAgg308
 z70:=Tryz.sizeOf308
 v70:=Tryz.zeroValue308
 t72:=Tryz.underlying310
 a72:=Tryz.isAgg310
 z72:=Tryz.sizeOf310
 v72:=Tryz.zeroValue310
 t75:=Tryz.underlying312
 a75:=Tryz.isAgg312
 z75:=Tryz.sizeOf312
 v75:=Tryz.zeroValue312
 t76:=Tryz.underlying313
 a76:=Tryz.isAgg313
 z76:=Tryz.sizeOf313
 v76:=Tryz.zeroValue313
 t127:=Tryz.underlying341
 a127:=Tryz.isAgg341
 z127:=Tryz.sizeOf341
 v127:=Tryz.zeroValue341
 t164:=Tryz.underlying356
 a164:=Tryz.isAgg356
 z164:=Tryz.sizeOf356
 v164:=Tryz.zeroValue356}
theorem Tryz.Builder_Extra_156:Builder.Extra Tryz.prog Tryz.lays156_ren:={
 sizeBuilder:=by kernel_rfl
 liesBuilder:=by kernel_rfl
 t5:=Tryz.underlying5
 a5:=Tryz.isAgg5
 z5:=Tryz.sizeOf5
 v5:=Tryz.zeroValue5
 infoByte:=by kernel_rfl
 cellsByte:=by kernel_rfl
 sizeByte:=by kernel_rfl
 neB5:=by decide}
open Go.RowKit in
theorem Tryz.strings_Join_none (a:Option Addr) (c:Nat) (sep:ByteArray) (w:World):
  Calls Tryz.prog 200 #[.slice a 0 c,.string sep] w fun e w'=>e= .returned (.string ⟨#[]⟩)∧w'=w:=Any.strings_Join_none Tryz.lays156 Tryz.Builder_Extra_156 a c sep w
open Go.RowKit in
theorem Tryz.strings_Join (bk o c:Nat) (xs:List ByteArray) (sep:ByteArray) (w:World) (hcells:∀(j:Nat) x,xs[j]? =some x→w.cell? ⟨bk,o+j,none⟩=some (.string x)) (hbk:bk<w.heap.size) (hN:xs.length≤140737488355328) (hcap:xs.length≤c) (hlen:(Lib.join (xs.map (·.data.toList)) sep.data.toList).length≤140737488355328):
  Calls Tryz.prog 200 #[.slice (some ⟨bk,o,none⟩) xs.length c,.string sep] w fun e w'=>e= .returned (.string ⟨(Lib.join (xs.map (·.data.toList)) sep.data.toList).toArray⟩)∧Below w.heap.size w w':=Any.strings_Join Tryz.lays156 Tryz.Builder_Extra_156 bk o c xs sep w hcells hbk hN hcap hlen
def Tryz.lays137_ren:Go.Shelf.Ren:=⟨fun | 137=>280 | 217=>299 | 266=>304 |n=>n,fun | 9=>9 | 5=>5 | 3=>3 |n=>n,fun |n=>n⟩
theorem Tryz.lays137:Go.Proofs.Lays.n137 Tryz.prog Tryz.lays137_ren:={
 mixed:=by kernel_rfl
 f137:=Tryz.func280.trans (congrArg some (by kernel_rfl))
 f217:=Tryz.func299.trans (congrArg some (by kernel_rfl))
 f266:=Tryz.func304.trans (congrArg some (by kernel_rfl))
 t3:=Tryz.underlying3
 a3:=Tryz.isAgg3
 z3:=Tryz.sizeOf3
 v3:=Tryz.zeroValue3
 t5:=Tryz.underlying5
 a5:=Tryz.isAgg5
 z5:=Tryz.sizeOf5
 v5:=Tryz.zeroValue5
 t9:=Tryz.underlying9
 a9:=Tryz.isAgg9
 z9:=Tryz.sizeOf9
 v9:=Tryz.zeroValue9}
open Go.RowKit in
theorem Tryz.strings_IndexByte (s:ByteArray) (c:Int) (w:World):
  Calls Tryz.prog 280 #[.string s,.int .u8 c] w fun e w'=>e= .returned (.int .i64 (Lib.indexByte s.data.toList c.toNat.toUInt8))∧w'=w:=Any.strings_IndexByte Tryz.lays137 s c w
def Tryz.lays190_ren:Go.Shelf.Ren:=⟨fun | 190=>196 | 125=>137 | 258=>239 | 128=>192 | 129=>193 | 302=>269 | 303=>270 | 304=>271 | 305=>272 | 306=>273 | 307=>274 | 308=>275 | 309=>276 | 310=>277 | 333=>293 | 329=>234 | 330=>235 | 334=>294 | 335=>295 | 336=>296 | 344=>303 |n=>n,fun | 31=>22 | 9=>9 | 3=>3 | 46=>169 | 0=>0 | 51=>171 | 53=>147 | 4=>4 | 183=>255 | 182=>254 | 131=>249 | 5=>5 | 218=>300 | 222=>304 | 228=>333 | 229=>334 |n=>n,fun |n=>n⟩
theorem Tryz.lays190:Go.Proofs.Lays.n190 Tryz.prog Tryz.lays190_ren:={
 mixed:=by kernel_rfl
 f125:=Tryz.func137.trans (congrArg some (by kernel_rfl))
 f128:=Tryz.func192.trans (congrArg some (by kernel_rfl))
 f129:=Tryz.func193.trans (congrArg some (by kernel_rfl))
 f190:=Tryz.func196.trans (congrArg some (by kernel_rfl))
 f258:=Tryz.func239.trans (congrArg some (by kernel_rfl))
 f302:=Tryz.func269.trans (congrArg some (by kernel_rfl))
 f303:=Tryz.func270.trans (congrArg some (by kernel_rfl))
 f304:=Tryz.func271.trans (congrArg some (by kernel_rfl))
 f305:=Tryz.func272.trans (congrArg some (by kernel_rfl))
 f306:=Tryz.func273.trans (congrArg some (by kernel_rfl))
 f307:=Tryz.func274.trans (congrArg some (by kernel_rfl))
 f308:=Tryz.func275.trans (congrArg some (by kernel_rfl))
 f309:=Tryz.func276.trans (congrArg some (by kernel_rfl))
 f310:=Tryz.func277.trans (congrArg some (by kernel_rfl))
 f329:=Tryz.func234.trans (congrArg some (by kernel_rfl))
 f330:=Tryz.func235.trans (congrArg some (by kernel_rfl))
 f333:=Tryz.func293.trans (congrArg some (by kernel_rfl))
 f334:=Tryz.func294.trans (congrArg some (by kernel_rfl))
 f335:=Tryz.func295.trans (congrArg some (by kernel_rfl))
 f336:=Tryz.func296.trans (congrArg some (by kernel_rfl))
 f344:=Tryz.func303.trans (congrArg some (by kernel_rfl))
 t0:=Tryz.underlying0
 a0:=Tryz.isAgg0
 z0:=Tryz.sizeOf0
 v0:=Tryz.zeroValue0
 t3:=Tryz.underlying3
 a3:=Tryz.isAgg3
 z3:=Tryz.sizeOf3
 v3:=Tryz.zeroValue3
 t4:=Tryz.underlying4
 a4:=Tryz.isAgg4
 z4:=Tryz.sizeOf4
 v4:=Tryz.zeroValue4
 t5:=Tryz.underlying5
 a5:=Tryz.isAgg5
 z5:=Tryz.sizeOf5
 v5:=Tryz.zeroValue5
 t9:=Tryz.underlying9
 a9:=Tryz.isAgg9
 z9:=Tryz.sizeOf9
 v9:=Tryz.zeroValue9
 t31:=Tryz.underlying22
 a31:=Tryz.isAgg22
 z31:=Tryz.sizeOf22
 v31:=Tryz.zeroValue22
 t46:=Tryz.underlying169
 a46:=Tryz.isAgg169
 z46:=Tryz.sizeOf169
 v46:=Tryz.zeroValue169
 t51:=Tryz.underlying171
 a51:=Tryz.isAgg171
 z51:=Tryz.sizeOf171
 v51:=Tryz.zeroValue171
 t53:=Tryz.underlying147
 a53:=Tryz.isAgg147
 z53:=Tryz.sizeOf147
 v53:=Tryz.zeroValue147
 t131:=Tryz.underlying249
 a131:=Tryz.isAgg249
 z131:=Tryz.sizeOf249
 v131:=Tryz.zeroValue249
 t182:=Tryz.underlying254
 a182:=Tryz.isAgg254
 z182:=Tryz.sizeOf254
 v182:=Tryz.zeroValue254
 t183:=Tryz.underlying255
 a183:=Tryz.isAgg255
 z183:=Tryz.sizeOf255
 v183:=Tryz.zeroValue255
 t218:=Tryz.underlying300
 a218:=Tryz.isAgg300
 z218:=Tryz.sizeOf300
 v218:=Tryz.zeroValue300
 t222:=Tryz.underlying304
 a222:=Tryz.isAgg304
 z222:=Tryz.sizeOf304
 v222:=Tryz.zeroValue304
 t228:=Tryz.underlying333
 a228:=Tryz.isAgg333
 z228:=Tryz.sizeOf333
 v228:=Tryz.zeroValue333
 t229:=Tryz.underlying334
 a229:=Tryz.isAgg334
 z229:=Tryz.sizeOf334
 v229:=Tryz.zeroValue334}
open Go.Sort Go.RowKit in
theorem Tryz.slices_Sort_string (blk off cap:Nat) (ss:List (List UInt8)) (w:World) (hH:Holds encStr w blk off ss.toArray) (hblk:blk<w.heap.size) (hsz:ss.length<4611686018427387904):
  Calls Tryz.prog 196 #[.slice (some ⟨blk,off,none⟩) ss.length cap] w fun e w'=>
   e= .returned (.tuple #[])∧∃n os,w'=grow (putRow encStr (Sort.ahead w n) blk off (ss.mergeSort fun x y=>decide (x≤y)).toArray) os:=Any.slices_Sort_string Tryz.lays190 blk off cap ss w hH hblk hsz
open Go.RowKit Go.Lib in
open Go.RowKit Go.Lib in
def Tryz.laysNm215_ren:Go.Shelf.Ren:=⟨fun | 15=>162 |n=>n,fun | 22=>24 | 3=>3 | 4=>4 |n=>n,fun |n=>n⟩
theorem Tryz.laysNm215:Go.Proofs.Lays2.n15 Tryz.prog Tryz.laysNm215_ren:={
 mixed:=by kernel_rfl
 f15:=Tryz.func162.trans (congrArg some (by kernel_rfl))
 t3:=Tryz.underlying3
 a3:=Tryz.isAgg3
 z3:=Tryz.sizeOf3
 v3:=Tryz.zeroValue3
 t4:=Tryz.underlying4
 a4:=Tryz.isAgg4
 z4:=Tryz.sizeOf4
 v4:=Tryz.zeroValue4
 t22:=Tryz.underlying24
 a22:=Tryz.isAgg24
 z22:=Tryz.sizeOf24
 v22:=Tryz.zeroValue24
 i3:=by kernel_rfl}
open Go.RowKit Go.Lib in
theorem Tryz.slices_Clone_int (b off n c:Nat) (zs:List Int) (w:World) (hz:n≤zs.length) (hbig:n*8≤140737488355328) (hc:∀j,j<zs.length→w.cell? ⟨b,off+j,none⟩=some (.int .i64 (zs.getD j 0))):
  Calls Tryz.prog 162 #[.slice (some ⟨b,off,none⟩) n c] w fun e w'=>∃v',e= .returned v'∧w'.ownsRow w.heap.size 3 1 v' n ((zs.take n).map (Value.int .i64))∧v'≠ .slice none 0 0∧Below w.heap.size w w':=Any.slices_Clone_int Tryz.laysNm215 b off n c zs w hz hbig hc
open Go.RowKit Go.Lib in
theorem Tryz.slices_Clone_int_nil (n c:Nat) (w:World):
  Calls Tryz.prog 162 #[.slice none n c] w fun e w'=>e= .returned (.slice none 0 0)∧w'=w:=Any.slices_Clone_int_nil Tryz.laysNm215 n c w
def Tryz.laysNm216_ren:Go.Shelf.Ren:=⟨fun | 16=>134 |n=>n,fun | 24=>22 | 9=>9 | 4=>4 |n=>n,fun |n=>n⟩
theorem Tryz.laysNm216:Go.Proofs.Lays2.n16 Tryz.prog Tryz.laysNm216_ren:={
 mixed:=by kernel_rfl
 f16:=Tryz.func134.trans (congrArg some (by kernel_rfl))
 t4:=Tryz.underlying4
 a4:=Tryz.isAgg4
 z4:=Tryz.sizeOf4
 v4:=Tryz.zeroValue4
 t9:=Tryz.underlying9
 a9:=Tryz.isAgg9
 z9:=Tryz.sizeOf9
 v9:=Tryz.zeroValue9
 t24:=Tryz.underlying22
 a24:=Tryz.isAgg22
 z24:=Tryz.sizeOf22
 v24:=Tryz.zeroValue22
 i9:=by kernel_rfl}
open Go.RowKit Go.Lib in
theorem Tryz.slices_Clone_string (b off n c:Nat) (zs:List ByteArray) (w:World) (hz:n≤zs.length) (hbig:n*16≤140737488355328) (hc:∀j,j<zs.length→w.cell? ⟨b,off+j,none⟩=some (.string (zs.getD j ByteArray.empty))):
  Calls Tryz.prog 134 #[.slice (some ⟨b,off,none⟩) n c] w fun e w'=>∃v',e= .returned v'∧w'.ownsRow w.heap.size 9 1 v' n ((zs.take n).map (Value.string))∧v'≠ .slice none 0 0∧Below w.heap.size w w':=Any.slices_Clone_string Tryz.laysNm216 b off n c zs w hz hbig hc
open Go.RowKit Go.Lib in
theorem Tryz.slices_Clone_string_nil (n c:Nat) (w:World):
  Calls Tryz.prog 134 #[.slice none n c] w fun e w'=>e= .returned (.slice none 0 0)∧w'=w:=Any.slices_Clone_string_nil Tryz.laysNm216 n c w
open Go.RowKit Go.Lib in
theorem Tryz.slices_Clone_int_zero (a:Addr) (c:Nat) (w:World):
  Calls Tryz.prog 162 #[.slice (some a) 0 c] w fun e w'=>∃v',e= .returned v'∧w'.ownsRow w.heap.size 3 1 v' 0 []∧v'≠ .slice none 0 0∧Below w.heap.size w w':=Any.slices_Clone_int_zero Tryz.laysNm215 a c w
open Go.RowKit Go.Lib in
theorem Tryz.slices_Clone_string_zero (a:Addr) (c:Nat) (w:World):
  Calls Tryz.prog 134 #[.slice (some a) 0 c] w fun e w'=>∃v',e= .returned v'∧w'.ownsRow w.heap.size 9 1 v' 0 []∧v'≠ .slice none 0 0∧Below w.heap.size w w':=Any.slices_Clone_string_zero Tryz.laysNm216 a c w
def Tryz.laysNm225_ren:Go.Shelf.Ren:=⟨fun | 25=>181 | 31=>224 | 32=>229 | 37=>265 |n=>n,fun | 22=>24 | 3=>3 | 4=>4 | 40=>169 | 0=>0 |n=>n,fun |n=>n⟩
theorem Tryz.laysNm225:Go.Proofs.Lays2.n25 Tryz.prog Tryz.laysNm225_ren:={
 mixed:=by kernel_rfl
 f25:=Tryz.func181.trans (congrArg some (by kernel_rfl))
 f31:=Tryz.func224.trans (congrArg some (by kernel_rfl))
 f32:=Tryz.func229.trans (congrArg some (by kernel_rfl))
 f37:=Tryz.func265.trans (congrArg some (by kernel_rfl))
 t0:=Tryz.underlying0
 a0:=Tryz.isAgg0
 z0:=Tryz.sizeOf0
 v0:=Tryz.zeroValue0
 t3:=Tryz.underlying3
 a3:=Tryz.isAgg3
 z3:=Tryz.sizeOf3
 v3:=Tryz.zeroValue3
 t4:=Tryz.underlying4
 a4:=Tryz.isAgg4
 z4:=Tryz.sizeOf4
 v4:=Tryz.zeroValue4
 t22:=Tryz.underlying24
 a22:=Tryz.isAgg24
 z22:=Tryz.sizeOf24
 v22:=Tryz.zeroValue24
 t40:=Tryz.underlying169
 a40:=Tryz.isAgg169
 z40:=Tryz.sizeOf169
 v40:=Tryz.zeroValue169}
open Go.RowKit Go.Lib in
theorem Tryz.slices_BinarySearch_int (b off n c:Nat) (zs:List Int) (x:Int) (w:World) (hz:n≤zs.length) (hbig:n<4611686018427387904) (hc:∀j,j<zs.length→w.cell? ⟨b,off+j,none⟩=some (.int .i64 (zs.getD j 0))) (hs:(zs.take n).Pairwise (·≤ ·)):
  Calls Tryz.prog 181 #[.slice (some ⟨b,off,none⟩) n c,.int .i64 x] w fun e w'=>e= .returned (.tuple #[.int .i64 ((zs.take n).countP (·<x):Nat),.bool ((zs.take n).contains x)])∧∃q,w'=w.drewN q:=Any.slices_BinarySearch_int Tryz.laysNm225 b off n c zs x w hz hbig hc hs
open Go.RowKit Go.Lib in
theorem Tryz.slices_BinarySearch_int_empty (a:Option Addr) (c:Nat) (x:Int) (w:World):
  Calls Tryz.prog 181 #[.slice a 0 c,.int .i64 x] w fun e w'=>e= .returned (.tuple #[.int .i64 0,.bool false])∧w'=w:=Any.slices_BinarySearch_int_empty Tryz.laysNm225 a c x w
end Go.Proofs
