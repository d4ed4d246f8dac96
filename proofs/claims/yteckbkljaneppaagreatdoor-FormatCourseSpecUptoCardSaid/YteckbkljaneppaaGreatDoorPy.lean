/- The walk of the law: Course matches the specification. -/
import Derived.Test.YteckbkljaneppaaGreatDoorPq
import Derived.Test.YteckbkljaneppaaGreatDoorNd
import Derived.Test.YteckbkljaneppaaGreatDoorPh
set_option linter.all false
namespace Go.Proofs.YteckbkljaneppaaGreatDoor.Dx
open Go Go.RowKit Go.Proofs
set_option maxRecDepth 100000
set_option maxHeartbeats 16000000
theorem FCourseSpec_meets (c : Course) (hc : c.small) : Meets Tryz.prog 3 [c.d] fun r => r = bD true := by
 refine enter tok {} Tryz.func3 rfl (by kernel_rfl) Tryz.ntmps3 (by simp) fun B0 W0 V0 lent g0 => ?_
 ((conv => whnf); repeat' (refine Z rfl ?_; conv => whnf))
 repeat' ((first | (intro hlq; (try simp only [SL] at hlq)) | refine Meets.k (sane8_meets.bl) ?_ | (refine Meets.mono (FewCourse_meets c hc) ?_; rintro _ ⟨_, rfl⟩) | refine Ks ?_ | refine Kq ?_ | refine Kt ?_ | ((refine Kh (fun hb => ?_) fun hb => ?_) <;> (try simp only [BL] at hb)) | refine Ka ?_ | refine Kb ?_ | refine Kc (hd := rfl) (e := ?_) | refine Kc (hd := Cond.cells_eq _) (e := ?_) | refine Kd (e := ?_) | refine Kl rfl ?_ | fail) <;> ((conv => whnf); repeat' (refine Z rfl ?_; conv => whnf)))
 · cases hb
 · exact ⟨rfl⟩
 repeat' ((first | (intro hlq; (try simp only [SL] at hlq)) | refine Meets.k (FCourse_meets c hc) ?_ | refine Meets.k (courset_meets c hc) ?_ | refine ⟨courseS c, rfl, ?_⟩ | refine Ks ?_ | refine Kq ?_ | refine Kt ?_ | ((refine Kh (fun hb => ?_) fun hb => ?_) <;> (try simp only [BL] at hb)) | refine Ka ?_ | refine Kb ?_ | refine Kc (hd := rfl) (e := ?_) | refine Kc (hd := Cond.cells_eq _) (e := ?_) | refine Kd (e := ?_) | refine Kl rfl ?_ | fail) <;> ((conv => whnf); repeat' (refine Z rfl ?_; conv => whnf)))
 all_goals first | (exfalso; exact hb True.intro) | (exfalso; exact Bool.noConfusion hb) | (refine ⟨congrArg bD ?_⟩; simp; done)
end Go.Proofs.YteckbkljaneppaaGreatDoor.Dx
