/- Walks: which commands may be. Conditions: each theorem's own. -/
import Derived.Test.YtopfcgpeaaehgaaGreatDoorGm
import Derived.Test.YtopfcgpeaaehgaaGreatDoorRow
import Derived.Test.YtopfcgpeaaehgaaGreatDoorGr
namespace Go.Proofs.YtopfcgpeaaehgaaGreatDoor
open Go.RowKit Go.Sig
def cmdV (c:GCmd) (A:Option Addr) (n d:Nat):Array Value:=#[.int .i64 c.kind,.string c.family,.int .i64 c.serial,.int .i64 c.token,.string c.client,.string c.user,.slice A n d,.string c.redirect,.string c.challenge,.string c.method,.string c.verifier,.bool c.refresh,.int .i64 c.edge]
end Go.Proofs.YtopfcgpeaaehgaaGreatDoor
