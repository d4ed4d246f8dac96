/- The walk of the law of Time and TimeText. -/
import Derived.Test.YtedjnaggkakphaaGreatDoorLk
import Derived.Test.YtedjnaggkakphaaGreatDoorLo
set_option linter.all false
namespace Go.Proofs.YtedjnaggkakphaaGreatDoor.Dx
open Go Go.RowKit Go.Proofs
set_option linter.all false
set_option maxRecDepth 100000
set_option maxHeartbeats 1000000

theorem LTimeSpec_meets (s : List UInt8) (t : Int) : Meets Tryz.prog 9 [.str s, iD t] fun r => r = bD true := by
  have kS := sane_meets.bl
  have kX := TimeText_meets t
  have kY := rTimeText_meets t
  by_cases hl : (s.length : Int) > 1000
  · refine enter tok {} Tryz.func9 rfl (by kernel_rfl) Tryz.ntmps9 (by simp) fun B0 W0 V0 lent g0 => ?_
    ((conv => whnf); repeat' (refine vcC_go tok {} rfl ?_; conv => whnf))
    repeat' ((first | (intro hlq; (try simp only [List.length_map, maxLen] at hlq)) | refine Meets.k (kS) ?_ | refine Ks ?_ | refine Kq ?_ | refine Kt ?_ | ((refine ⟨fun (hb : _ = true) => ?_, fun (hb : _ = false) => ?_⟩) <;> (try simp only [BB, List.length_map] at hb)) | refine Ka ?_ | refine Kb ?_ | refine Kc (hd := rfl) (e := ?_) | refine Kc (hd := icells_eq _) (e := ?_) | refine Kd (e := ?_) | refine ⟨(rfl : look _ _ = look _ _), ?_⟩ | fail) <;> ((conv => whnf); repeat' (refine vcC_go tok {} rfl ?_; conv => whnf)))
    all_goals first
      | exact ⟨rfl⟩
      | (exfalso; omega)
      | contradiction
  have kT := cTime_meets s (by omega)
  have kR := rTime_meets s
  unfold timeD at kT kR
  cases hN : timeN s with
  | none =>
    rw [hN] at kT kR
    have kT : Meets Tryz.prog 22 [.str s] fun d => d = .tup [iD 0, .v (.int .i64 50)] := kT
    have kR : Meets Tryz.prog 23 [.str s] fun d => d = .tup [iD 0, .v (.int .i64 50)] := kR
    refine enter tok {} Tryz.func9 rfl (by kernel_rfl) Tryz.ntmps9 (by simp) fun B0 W0 V0 lent g0 => ?_
    ((conv => whnf); repeat' (refine vcC_go tok {} rfl ?_; conv => whnf))
    repeat' ((first | (intro hlq; (try simp only [List.length_map, maxLen] at hlq)) | refine Meets.k (kS) ?_ | refine Meets.k (kT) ?_ | refine Meets.k (kR) ?_ | refine Meets.k (kX) ?_ | refine Meets.k (kY) ?_ | refine Ks ?_ | refine Kq ?_ | refine Kt ?_ | ((refine ⟨fun (hb : _ = true) => ?_, fun (hb : _ = false) => ?_⟩) <;> (try simp only [BB, List.length_map] at hb)) | refine Ka ?_ | refine Kb ?_ | refine Kc (hd := rfl) (e := ?_) | refine Kc (hd := icells_eq _) (e := ?_) | refine Kd (e := ?_) | refine ⟨(rfl : look _ _ = look _ _), ?_⟩ | fail) <;> ((conv => whnf); repeat' (refine vcC_go tok {} rfl ?_; conv => whnf)))
    all_goals first
      | (refine ⟨congrArg bD ?_⟩; simp; done)
      | (exfalso; omega)
      | contradiction
      | (exfalso; simp at *; done)
  | some v =>
    rw [hN] at kT kR
    have kT : Meets Tryz.prog 22 [.str s] fun d => d = .tup [iD v, .v (.int .i64 0)] := kT
    have kR : Meets Tryz.prog 23 [.str s] fun d => d = .tup [iD v, .v (.int .i64 0)] := kR
    refine enter tok {} Tryz.func9 rfl (by kernel_rfl) Tryz.ntmps9 (by simp) fun B0 W0 V0 lent g0 => ?_
    ((conv => whnf); repeat' (refine vcC_go tok {} rfl ?_; conv => whnf))
    repeat' ((first | (intro hlq; (try simp only [List.length_map, maxLen] at hlq)) | refine Meets.k (kS) ?_ | refine Meets.k (kT) ?_ | refine Meets.k (kR) ?_ | refine Meets.k (kX) ?_ | refine Meets.k (kY) ?_ | refine Ks ?_ | refine Kq ?_ | refine Kt ?_ | ((refine ⟨fun (hb : _ = true) => ?_, fun (hb : _ = false) => ?_⟩) <;> (try simp only [BB, List.length_map] at hb)) | refine Ka ?_ | refine Kb ?_ | refine Kc (hd := rfl) (e := ?_) | refine Kc (hd := icells_eq _) (e := ?_) | refine Kd (e := ?_) | refine ⟨(rfl : look _ _ = look _ _), ?_⟩ | fail) <;> ((conv => whnf); repeat' (refine vcC_go tok {} rfl ?_; conv => whnf)))
    all_goals first
      | (refine ⟨congrArg bD ?_⟩; simp; done)
      | (exfalso; omega)
      | contradiction
      | (exfalso; simp at *; done)
end Go.Proofs.YtedjnaggkakphaaGreatDoor.Dx

