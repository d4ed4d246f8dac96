/- The walk of the law: Same matches the specification. -/
import Derived.Test.YteckbkljaneppaaGreatDoorPq
import Derived.Test.YteckbkljaneppaaGreatDoorNd
import Derived.Test.YteckbkljaneppaaGreatDoorPn
set_option linter.all false
namespace Go.Proofs.YteckbkljaneppaaGreatDoor.Dx
open Go Go.RowKit Go.Proofs
set_option maxRecDepth 100000
set_option maxHeartbeats 16000000
theorem FSameSpec_meets (a : Course) (ha : a.small) (b : Course) (hb' : b.small) : Meets Tryz.prog 5 [a.d, b.d] fun r => r = bD true := by
 refine enter tok {} Tryz.func5 rfl (by kernel_rfl) Tryz.ntmps5 (by simp) fun B0 W0 V0 lent g0 => ?_
 ((conv => whnf); repeat' (refine Z rfl ?_; conv => whnf))
 repeat' ((first | (intro hlq; (try simp only [SL] at hlq)) | refine Meets.k (sane8_meets.bl) ?_ | (refine Meets.mono (FewCourse_meets a ha) ?_; rintro _ ⟨_, rfl⟩) | (refine Meets.mono (FewCourse_meets b hb') ?_; rintro _ ⟨_, rfl⟩) | refine Ks ?_ | refine Kq ?_ | refine Kt ?_ | ((refine Kh (fun hb => ?_) fun hb => ?_) <;> (try simp only [BL] at hb)) | refine Ka ?_ | refine Kb ?_ | refine Kc (hd := rfl) (e := ?_) | refine Kc (hd := Cond.cells_eq _) (e := ?_) | refine Kd (e := ?_) | refine Kl rfl ?_ | fail) <;> ((conv => whnf); repeat' (refine Z rfl ?_; conv => whnf)))
 · cases hb
 · exact ⟨rfl⟩
 · exact ⟨rfl⟩
 refine draw_rule tok (cf := {}) (by kernel_rfl) [.p 0, .p 1, .p 3, .p 4, .s 2 [0,1], .s 5 [3,4], .p 6, .p 7, .p 8, .p 9, .s 10 [8,9,7,6], .p 11, .p 12, .p 13, .p 14, .s 15 [13,14,12,11], .p 16, .p 17] (by kernel_rfl) ?_
 ((conv => whnf); repeat' (refine Z rfl ?_; conv => whnf))
 have haa : sameB a a = true := sameB_true rfl
 have hbb : sameB b b = true := sameB_true rfl
 repeat' ((first | (intro hlq; (try simp only [SL] at hlq)) | refine Meets.k (Same_meets8 a b) ?_ | refine Meets.k (RSame_meets8 a b) ?_ | refine Meets.k (Same_meets8 a a) ?_ | refine Meets.k (Same_meets8 b b) ?_ | refine Ks ?_ | refine Kq ?_ | refine Kt ?_ | ((refine Kh (fun hb => ?_) fun hb => ?_) <;> (try simp only [BL] at hb)) | refine Ka ?_ | refine Kb ?_ | refine Kc (hd := rfl) (e := ?_) | refine Kc (hd := Cond.cells_eq _) (e := ?_) | refine Kd (e := ?_) | refine Kl rfl ?_ | fail) <;> ((conv => whnf); repeat' (refine Z rfl ?_; conv => whnf)))
 all_goals first
  | (exfalso; exact hb True.intro)
  | (exfalso; rw [haa] at hb; exact Bool.noConfusion hb)
  | (exfalso; rw [hbb] at hb; exact Bool.noConfusion hb)
  | (rw [haa]; exact ⟨rfl⟩)
  | (rw [hbb]; exact ⟨rfl⟩)
  | (refine ⟨congrArg bD ?_⟩; simp [*]; done)
end Go.Proofs.YteckbkljaneppaaGreatDoor.Dx
