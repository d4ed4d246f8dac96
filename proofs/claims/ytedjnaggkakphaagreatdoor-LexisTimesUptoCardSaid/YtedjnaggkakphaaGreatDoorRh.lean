/- The reference's small functions: letter, inner, Sign, Integer. -/
import Derived.Test.YtedjnaggkakphaaGreatDoorRg
set_option linter.all false
namespace Go.Proofs.YtedjnaggkakphaaGreatDoor.Dx
open Go Go.RowKit Go.Proofs
set_option linter.all false
set_option maxRecDepth 100000
set_option maxHeartbeats 8000000

end Go.Proofs.YtedjnaggkakphaaGreatDoor.Dx

