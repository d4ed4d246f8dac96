/- Chapter 10: when two rules have one tree; a negated choice, a repetition. -/
import Derived.Test.YtacclfgmgphljaaGreatSj
set_option linter.all false
namespace Go.Proofs.YtacclfgmgphljaaGreat.Dx
open Go Go.RowKit
set_option maxRecDepth 100000
/-! ### how large a tree is -/
end Go.Proofs.YtacclfgmgphljaaGreat.Dx
