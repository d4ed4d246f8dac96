/- The walk of the law that times between positions add up. -/
import Derived.Test.YtkkohadkpogdfaaGreatOi
import Derived.Test.YtkkohadkpogdfaaGreatOj
import Derived.Test.YtkkohadkpogdfaaGreatOk
namespace Go.Proofs.YtkkohadkpogdfaaGreat.Dx
open Go Go.RowKit
set_option linter.all false
set_option maxRecDepth 100000
set_option maxHeartbeats 16000000

theorem betweenE_zero {c : Course} {d x f t : Int} (h : betweenE c d x f t = 0) : Built c d x ∧ 0 ≤ f ∧ f ≤ t ∧ t < (matsX c d x).length := by
  rw [betweenE] at h
  split at h
  · rename_i h1; exact absurd h h1
  · rename_i h1
    split at h
    · omega
    · exact ⟨built_of (Decidable.not_not.1 h1), by omega, by omega, by omega⟩
theorem betweenE_of {c : Course} {d x f t : Int} (h : Built c d x) (h1 : 0 ≤ f) (h2 : f ≤ t) (h3 : t < (matsX c d x).length) : betweenE c d x f t = 0 := by
  rw [betweenE, if_neg (by rw [h.zero]; simp), if_neg (by omega)]
theorem between_add {c : Course} {d x i j k : Int} (h : betweenE c d x i k = 0) (h1 : i ≤ j) (h2 : j ≤ k) :
    (betweenE c d x i j = 0 ∧ betweenE c d x j k = 0) ∧ ((betweenS c d x i j).1 ≤ (betweenS c d x i k).1 ∧ (betweenS c d x j k).2 ≤ (betweenS c d x i k).2 ∧ (betweenS c d x i k).1 ≤ (betweenS c d x i k).2 ∧
      ((betweenS c d x i k).2 < most → (betweenS c d x i k).1 = (betweenS c d x i j).1 + (betweenS c d x j k).1 ∧ (betweenS c d x i k).2 = (betweenS c d x i j).2 + (betweenS c d x j k).2)) ∧
      ((0 ≤ (betweenS c d x i j).1 ∧ (betweenS c d x i j).1 ≤ most) ∧ (0 ≤ (betweenS c d x i j).2 ∧ (betweenS c d x i j).2 ≤ most)) ∧ ((0 ≤ (betweenS c d x j k).1 ∧ (betweenS c d x j k).1 ≤ most) ∧ (0 ≤ (betweenS c d x j k).2 ∧ (betweenS c d x j k).2 ≤ most)) := by
  obtain ⟨hb, hi, hik, hk⟩ := betweenE_zero h
  have e1 := betweenE_of hb hi h1 (by omega)
  have e2 := betweenE_of hb (show 0 ≤ j by omega) h2 hk
  refine ⟨⟨e1, e2⟩, ?_⟩
  have hn := hb.valid.nums
  have hs := span_add hn (matsX c d x) i.toNat (j.toNat - i.toNat) (k.toNat - j.toNat)
  rw [show i.toNat + (j.toNat - i.toNat) = j.toNat by omega, show j.toNat - i.toNat + (k.toNat - j.toNat) = k.toNat - i.toNat by omega] at hs
  have b1 := spanF_bound hn (matsX c d x) i.toNat (j.toNat - i.toNat)
  have b2 := spanF_bound hn (matsX c d x) j.toNat (k.toNat - j.toNat)
  simp only [betweenS, if_pos h, if_pos e1, if_pos e2]
  exact ⟨hs, ⟨b1.1, b1.2.1⟩, ⟨b2.1, b2.2.1⟩⟩

theorem Sums_meets (c : Course) (hc : c.small) (d x i j k : Int) : Meets Tryz.prog 5 [c.d, iD d, iD x, iD i, iD j, iD k] fun r => r = bD true := by
  refine enter tok {} Tryz.func5 rfl (by kernel_rfl) Tryz.ntmps5 (by simp) fun B0 W0 V0 lent g0 => ?_
  ((conv => whnf); repeat' (refine vcC_go tok {} rfl ?_; conv => whnf))
  refine Meets.k sane9_meets ?_
  ((conv => whnf); repeat' (refine vcC_go tok {} rfl ?_; conv => whnf))
  refine ⟨fun h0 => ?_, fun h0 => ?_⟩ <;> (try simp only [BB, List.length_map] at h0) <;> ((conv => whnf); repeat' (refine vcC_go tok {} rfl ?_; conv => whnf))
  · exact (Bool.noConfusion h0)
  refine (Few_meets c hc).mono ?_
  rintro r ⟨b, rfl⟩
  ((conv => whnf); repeat' (refine vcC_go tok {} rfl ?_; conv => whnf))
  repeat' ((first | (intro hlq; (try simp only [List.length_map, maxLen] at hlq)) | refine Meets.k (Between_meets c hc _ _ _ _) ?_ | ((refine ⟨fun (hb : _ = true) => ?_, fun (hb : _ = false) => ?_⟩) <;> (try simp only [BB, List.length_map] at hb)) | refine Ka ?_ | refine Kb ?_ | refine Kc (hd := rfl) (e := ?_) | refine Kc (hd := Cond.cells_eq _) (e := ?_) | refine Kd (e := ?_) | refine ⟨(rfl : look _ _ = look _ _), ?_⟩ | fail) <;> ((conv => whnf); repeat' (refine vcC_go tok {} rfl ?_; conv => whnf)))
  all_goals (try exact ⟨rfl⟩)
  all_goals
    have hz : betweenE c d x i k = 0 → betweenE c d x i j = 0 ∧ betweenE c d x j k = 0 := fun h => (between_add h (by omega) (by omega)).1
  all_goals (try (exfalso; omega))
  all_goals
    obtain ⟨_, ⟨q1, q2, q3, q4⟩, ⟨⟨q5, q6⟩, q7, q8⟩, ⟨⟨q9, q10⟩, q11, q12⟩⟩ := between_add (c := c) (d := d) (x := x) (i := i) (j := j) (k := k) (by omega) (by omega) (by omega)
    (try (exfalso; omega))
  repeat' ((first | (intro hlq; (try simp only [List.length_map, maxLen] at hlq)) | refine Ka ?_ | refine Kb ?_ | refine Kc (hd := rfl) (e := ?_) | refine Kc (hd := Cond.cells_eq _) (e := ?_) | refine Kd (e := ?_) | refine ⟨(rfl : look _ _ = look _ _), ?_⟩ | fail) <;> ((conv => whnf); repeat' (refine vcC_go tok {} rfl ?_; conv => whnf)))
  refine ⟨⟨⟨[_, _], rfl, rfl⟩, ⟨[_, _], rfl, rfl⟩⟩, ?_⟩
  ((conv => whnf); repeat' (refine vcC_go tok {} rfl ?_; conv => whnf))
  obtain ⟨e1, e2⟩ := q4 (by have hm : most = 2199023255552 := rfl; omega)
  refine ⟨congrArg bD ?_⟩
  simp [e1, e2]
end Go.Proofs.YtkkohadkpogdfaaGreat.Dx

