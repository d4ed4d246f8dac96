/- The walk of the law: different courses have different texts. -/
import Derived.Test.YteckbkljaneppaaGreatDoorPq
import Derived.Test.YteckbkljaneppaaGreatDoorNd
import Derived.Test.YteckbkljaneppaaGreatDoorPp
set_option linter.all false
namespace Go.Proofs.YteckbkljaneppaaGreatDoor.Dx
open Go Go.RowKit Go.Proofs
set_option maxRecDepth 100000
set_option maxHeartbeats 16000000
theorem course_good {c : Course} (hc : c.small) (h : courseX c = 0) : courseS c = courseT c ∧ Good c := by
 have h0 : courseE c = 0 := by unfold courseX at h; split at h <;> assumption
 refine ⟨?_, good_of hc h0⟩
 refine if_pos ⟨h0, ?_⟩
 unfold courseX at h
 rw [if_pos h0] at h
 rcases Nat.lt_or_ge 65536 (courseT c).length with k | k
 · rw [if_neg (by omega)] at h; cases h
 · exact k
theorem FDifferent_meets (a : Course) (ha : a.small) (b : Course) (hb' : b.small) : Meets Tryz.prog 6 [a.d, b.d] fun r => r = bD true := by
 refine enter tok {} Tryz.func6 rfl (by kernel_rfl) Tryz.ntmps6 (by simp) fun B0 W0 V0 lent g0 => ?_
 ((conv => whnf); repeat' (refine Z rfl ?_; conv => whnf))
 repeat' ((first | (intro hlq; (try simp only [SL] at hlq)) | refine Meets.k (sane8_meets.bl) ?_ | (refine Meets.mono (FewCourse_meets a ha) ?_; rintro _ ⟨_, rfl⟩) | (refine Meets.mono (FewCourse_meets b hb') ?_; rintro _ ⟨_, rfl⟩) | refine Ks ?_ | refine Kq ?_ | refine Kt ?_ | ((refine Kh (fun hb => ?_) fun hb => ?_) <;> (try simp only [BL] at hb)) | refine Ka ?_ | refine Kb ?_ | refine Kc (hd := rfl) (e := ?_) | refine Kc (hd := Cond.cells_eq _) (e := ?_) | refine Kd (e := ?_) | refine Kl rfl ?_ | fail) <;> ((conv => whnf); repeat' (refine Z rfl ?_; conv => whnf)))
 · cases hb
 · exact ⟨rfl⟩
 · exact ⟨rfl⟩
 repeat' ((first | (intro hlq; (try simp only [SL] at hlq)) | refine Meets.k (FCourse_meets a ha) ?_ | refine Meets.k (FCourse_meets b hb') ?_ | refine Ks ?_ | refine Kq ?_ | refine Kt ?_ | ((refine Kh (fun hb => ?_) fun hb => ?_) <;> (try simp only [BL] at hb)) | refine Ka ?_ | refine Kb ?_ | refine Kc (hd := rfl) (e := ?_) | refine Kc (hd := Cond.cells_eq _) (e := ?_) | refine Kd (e := ?_) | refine Kl rfl ?_ | fail) <;> ((conv => whnf); repeat' (refine Z rfl ?_; conv => whnf)))
 · exact ⟨rfl⟩
 · exact ⟨rfl⟩
 refine draw_rule tok (cf := {}) (by kernel_rfl) [.p 0, .p 1, .p 2, .p 3, .p 4, .p 5, .p 7, .s 6 [5], .s 8 [7], .s 9 [], .p 10, .p 11] (by kernel_rfl) ?_
 ((conv => whnf); repeat' (refine Z rfl ?_; conv => whnf))
 repeat' ((first | (intro hlq; (try simp only [SL] at hlq)) | refine ⟨courseS a, rfl, ?_⟩ | refine ⟨courseS b, rfl, ?_⟩ | refine Meets.k (CoreCourse_meets a ha) ?_ | refine Meets.k (CoreCourse_meets b hb') ?_ | refine Meets.k (Same_meets8 a.cores b.cores) ?_ | refine Ks ?_ | refine Kq ?_ | refine Kt ?_ | ((refine Kh (fun hb => ?_) fun hb => ?_) <;> (try simp only [BL] at hb)) | refine Ka ?_ | refine Kb ?_ | refine Kc (hd := rfl) (e := ?_) | refine Kc (hd := Cond.cells_eq _) (e := ?_) | refine Kd (e := ?_) | refine Kl rfl ?_ | fail) <;> ((conv => whnf); repeat' (refine Z rfl ?_; conv => whnf)))
 obtain ⟨e1, g1⟩ := course_good ha (by omega)
 obtain ⟨e2, g2⟩ := course_good hb' (by omega)
 refine ⟨congrArg bD (decide_eq_true ?_)⟩
 rw [e1, e2, Bool.eq_iff_iff, decide_eq_true_eq, sameB_iff]
 exact course_tells g1 g2
end Go.Proofs.YteckbkljaneppaaGreatDoor.Dx
