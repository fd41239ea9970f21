/- From arguments that can be read as data to what the walks ask: a command. Conditions: none. -/
import Derived.Test.YtpmgepijkhaonaaGreatMem
import Derived.ProofKit
import Derived.OpenShut
import Derived.ShutString
import Derived.ChangeOld
import Derived.Below
import Derived.Deep.Slices
import Derived.SizedLaws
import Derived.Test.YtpmgepijkhaonaaGreatHm
namespace Go.Sig
open Go.RowKit Go.ChangeShapes Go.WideShapes
section
variable {H:Type}{enc:TypeId×Value→H}{P:Program}{w:World}{base:Nat}{spare:Nat→Bool}{held:Bool}
end
end Go.Sig
namespace Go.Proofs.YtpmgepijkhaonaaGreat
open Go.RowKit Go.Sig Go.ChangeShapes Go.WideShapes
theorem uuStr:Tryz.prog.underlying 9=some .string:=by kernel_rfl
theorem uuBool:Tryz.prog.underlying 4=some .bool:=by kernel_rfl
section
variable {H:Type}{enc:TypeId×Value→H}{w:World}{base:Nat}{spare:Nat→Bool}{held:Bool}
end
end Go.Proofs.YtpmgepijkhaonaaGreat
