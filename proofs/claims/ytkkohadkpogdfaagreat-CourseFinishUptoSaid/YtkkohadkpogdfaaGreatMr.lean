/- Direct in the reference; lists of numbers. -/
import Derived.Test.YtkkohadkpogdfaaGreatMq
namespace Go.Proofs.YtkkohadkpogdfaaGreat.Dx
open Go Go.RowKit
set_option linter.all false
set_option maxRecDepth 100000
set_option maxHeartbeats 8000000

/-! what valid steps apply -/
end Go.Proofs.YtkkohadkpogdfaaGreat.Dx

/- applied. -/
namespace Go.Proofs.YtkkohadkpogdfaaGreat.Dx
open Go Go.RowKit
set_option linter.all false
set_option maxRecDepth 100000
set_option maxHeartbeats 8000000

end Go.Proofs.YtkkohadkpogdfaaGreat.Dx

/- Direct, in the reference and in the code. -/
namespace Go.Proofs.YtkkohadkpogdfaaGreat.Dx
open Go Go.RowKit
set_option linter.all false
set_option maxRecDepth 100000
set_option maxHeartbeats 8000000

def tiesE (l : List Step) : Int := if fitsF (formsS l) 0 0 0 then (if l ≠ [] ∧ l.all Step.valid then 0 else 71) else 2
theorem tTies (l : List Step) (hl : l.length ≤ 1048576) (hok : ∀ s ∈ l, s.ok) : Meets Tryz.prog 40 [.sl (l.map Step.cells)] fun d => d = iD (tiesE l) := Ties_meets l hl hok
theorem rTies (l : List Step) : Meets Tryz.prog 53 [.sl (l.map Step.cells)] fun d => d = iD (tiesE l) := rTies_meets l
end Go.Proofs.YtkkohadkpogdfaaGreat.Dx

/- The helpers of the laws of chapter 07. -/
namespace Go.Proofs.YtkkohadkpogdfaaGreat.Dx
open Go Go.RowKit
set_option linter.all false
set_option maxRecDepth 100000
set_option maxHeartbeats 8000000

end Go.Proofs.YtkkohadkpogdfaaGreat.Dx

