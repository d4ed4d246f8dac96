/- The walk of the law: Cond and Steps match the specification. -/
import Derived.Test.YteckbkljaneppaaGreatDoorPq
import Derived.Test.YteckbkljaneppaaGreatDoorNd
set_option linter.all false
namespace Go.Proofs.YteckbkljaneppaaGreatDoor.Dx
open Go Go.RowKit Go.Proofs
set_option maxRecDepth 100000
set_option maxHeartbeats 16000000
theorem FTiesSpec_meets (c : Cond) (hc : c.ok) (l : List Step) (hl : l.length ≤ 1048576) (hok : ∀ s ∈ l, s.ok) : Meets Tryz.prog 4 [c.d, .sl (l.map Step.cells)] fun r => r = bD true := by
 refine enter tok {} Tryz.func4 rfl (by kernel_rfl) Tryz.ntmps4 (by simp) fun B0 W0 V0 lent g0 => ?_
 ((conv => whnf); repeat' (refine Z rfl ?_; conv => whnf))
 repeat' ((first | (intro hlq; (try simp only [SL] at hlq)) | refine Meets.k (sane8_meets.bl) ?_ | (refine Meets.mono (FewCond_meets c) ?_; rintro _ ⟨_, rfl⟩) | (refine Meets.mono (Few_meets l) ?_; rintro _ ⟨_, rfl⟩) | refine Ks ?_ | refine Kq ?_ | refine Kt ?_ | ((refine Kh (fun hb => ?_) fun hb => ?_) <;> (try simp only [BL] at hb)) | refine Ka ?_ | refine Kb ?_ | refine Kc (hd := rfl) (e := ?_) | refine Kc (hd := Cond.cells_eq _) (e := ?_) | refine Kd (e := ?_) | refine Kl rfl ?_ | fail) <;> ((conv => whnf); repeat' (refine Z rfl ?_; conv => whnf)))
 · cases hb
 · exact ⟨rfl⟩
 · exact ⟨rfl⟩
 repeat' ((first | (intro hlq; (try simp only [SL] at hlq)) | refine Meets.k (FCond_meets c hc) ?_ | refine Meets.k (rFCond_meets c) ?_ | refine Meets.k (FSteps_meets l hl hok) ?_ | refine Meets.k (rFSteps_meets l) ?_ | refine Ks ?_ | refine Kq ?_ | refine Kt ?_ | ((refine Kh (fun hb => ?_) fun hb => ?_) <;> (try simp only [BL] at hb)) | refine Ka ?_ | refine Kb ?_ | refine Kc (hd := rfl) (e := ?_) | refine Kc (hd := Cond.cells_eq _) (e := ?_) | refine Kd (e := ?_) | refine Kl rfl ?_ | fail) <;> ((conv => whnf); repeat' (refine Z rfl ?_; conv => whnf)))
 all_goals first | (exfalso; exact hb True.intro) | (exfalso; exact Bool.noConfusion hb) | (refine ⟨congrArg bD ?_⟩; simp; done)
end Go.Proofs.YteckbkljaneppaaGreatDoor.Dx
