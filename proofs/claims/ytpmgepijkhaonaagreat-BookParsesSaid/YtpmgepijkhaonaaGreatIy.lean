/-
  DERIVED: THE SHELF's CONTRACTS AT THIS DUMP, IN PLAIN WORDS (tools/lay-plain.mjs out of 'YtpmgepijkhaonaaGreatIz.lean', which tools/lay-shelf.mjs wrote): THE SAME DECLARATIONS UNDER THE SAME NAMES: 'import', 'namespace', 'open', 'def', 'theorem' AND NOTHING ELSE: no command of the shelf's: FOR A HAND-IN. Each laying: the table of numbers ('.._ren') and one theorem, a field a fact of the dump's own or the kernel's comparison; each contract: ONE APPLICATION.
-/
import Derived.Shelf.Spec.SlicesInsertGrow
import Derived.Ground.Names2Prog
import Derived.Test.YtpmgepijkhaonaaGreatProg
namespace Go.Proofs
open Go.Shelf
def Tryz.laysIns_ren:Go.Shelf.Ren:=⟨fun | 21=>182 | 27=>230 | 28=>231 | 35=>266 | 39=>292 |n=>n,fun | 22=>24 | 3=>3 | 4=>4 | 0=>0 |n=>n,fun |n=>n⟩
theorem Tryz.laysIns:Go.Proofs.Lays2.n21 Tryz.prog Tryz.laysIns_ren:={
 mixed:=by kernel_rfl
 f21:=Tryz.func182.trans (congrArg some (by kernel_rfl))
 f27:=Tryz.func230.trans (congrArg some (by kernel_rfl))
 f28:=Tryz.func231.trans (congrArg some (by kernel_rfl))
 f35:=Tryz.func266.trans (congrArg some (by kernel_rfl))
 f39:=Tryz.func292.trans (congrArg some (by kernel_rfl))
 t0:=Tryz.underlying0
 a0:=Tryz.isAgg0
 z0:=Tryz.sizeOf0
 v0:=Tryz.zeroValue0
 t3:=Tryz.underlying3
 a3:=Tryz.isAgg3
 z3:=Tryz.sizeOf3
 v3:=Tryz.zeroValue3
 t4:=Tryz.underlying4
 a4:=Tryz.isAgg4
 z4:=Tryz.sizeOf4
 v4:=Tryz.zeroValue4
 t22:=Tryz.underlying24
 a22:=Tryz.isAgg24
 z22:=Tryz.sizeOf24
 v22:=Tryz.zeroValue24
 i3:=by kernel_rfl}
end Go.Proofs
