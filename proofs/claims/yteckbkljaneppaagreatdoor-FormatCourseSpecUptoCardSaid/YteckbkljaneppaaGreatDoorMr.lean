/- Direct in the reference; lists of numbers. -/
import Derived.Test.YteckbkljaneppaaGreatDoorMq
set_option linter.all false
namespace Go.Proofs.YteckbkljaneppaaGreatDoor.Dx
open Go Go.RowKit
set_option maxRecDepth 100000
set_option maxHeartbeats 8000000
end Go.Proofs.YteckbkljaneppaaGreatDoor.Dx
/- applied. -/
namespace Go.Proofs.YteckbkljaneppaaGreatDoor.Dx
open Go Go.RowKit
set_option maxRecDepth 100000
set_option maxHeartbeats 8000000
end Go.Proofs.YteckbkljaneppaaGreatDoor.Dx
/- Direct, in the reference and in the code. -/
namespace Go.Proofs.YteckbkljaneppaaGreatDoor.Dx
open Go Go.RowKit
set_option maxRecDepth 100000
set_option maxHeartbeats 8000000
def tiesE (l : List Step) : Int := if fitsF (formsS l) 0 0 0 then (if l ≠ [] ∧ l.all Step.valid then 0 else 71) else 2
theorem tTies (l : List Step) (hl : l.length ≤ 1048576) (hok : ∀ s ∈ l, s.ok) : Meets Tryz.prog 44 [.sl (l.map Step.cells)] fun d => d = iD (tiesE l) := Ties_meets l hl hok
theorem rTies (l : List Step) : Meets Tryz.prog 45 [.sl (l.map Step.cells)] fun d => d = iD (tiesE l) := rTies_meets l
theorem ties_ok {l : List Step} (h : tiesE l = 0) : (∀ s ∈ l, s.valid = true) ∧ Step.nstL l ≤ 64 := by
 unfold tiesE at h
 split at h
 · rename_i hf
   split at h
   · rename_i hv
     refine ⟨List.all_eq_true.1 hv.2, ?_⟩
     obtain ⟨k1, _⟩ := F_S l
     simp only [fitsF, Bool.or_eq_true, Bool.and_eq_true, decide_eq_true_eq, k1] at hf
     rcases hf with hf | hf
     · exact absurd (by simpa [formsS] using hf) hv.1
     · omega
   · cases h
 · cases h
end Go.Proofs.YteckbkljaneppaaGreatDoor.Dx
/- The helpers of the laws of chapter 07. -/
namespace Go.Proofs.YteckbkljaneppaaGreatDoor.Dx
open Go Go.RowKit
set_option maxRecDepth 100000
set_option maxHeartbeats 8000000
end Go.Proofs.YteckbkljaneppaaGreatDoor.Dx
