/- Is a route possible? In the reference. -/
import Derived.Test.YteckbkljaneppaaGreatDoorMz
set_option linter.all false
namespace Go.Proofs.YteckbkljaneppaaGreatDoor.Dx
open Go Go.RowKit
set_option maxRecDepth 100000
set_option maxHeartbeats 16000000
end Go.Proofs.YteckbkljaneppaaGreatDoor.Dx
