/- Same, in the reference. -/
import Derived.Test.YteckbkljaneppaaGreatDoorPm
import Derived.Test.YteckbkljaneppaaGreatDoorPe
set_option linter.all false
namespace Go.Proofs.YteckbkljaneppaaGreatDoor.Dx
open Go Go.RowKit Go.Proofs
set_option maxRecDepth 100000
set_option maxHeartbeats 32000000
theorem rsameCond_meets (a b : Cond) : Meets Tryz.prog 155 [a.d, b.d] fun d => d = bD (sameB a b) := by
 have hp : ∀ x ∈ a.parts, ∀ y, Meets Tryz.prog 155 [x.d, y.d] fun d => d = bD (sameB x y) := fun x hx y => by
  have := Cond.size_part hx
  exact rsameCond_meets x y
 refine enter tok {} Tryz.func155 rfl (by kernel_rfl) Tryz.ntmps155 (by simp) fun B0 W0 V0 lent g0 => ?_
 ((conv => whnf); repeat' (refine Z rfl ?_; conv => whnf))
 repeat' ((first | (intro hlq; (try simp only [SL] at hlq)) | refine Ks ?_ | refine Kq ?_ | refine Kt ?_ | ((refine Kh (fun hb => ?_) fun hb => ?_) <;> (try simp only [BL] at hb)) | refine Ka ?_ | refine Kb ?_ | refine Kc (hd := rfl) (e := ?_) | refine Kc (hd := Cond.cells_eq _) (e := ?_) | refine Kd (e := ?_) | refine Kl rfl ?_ | fail) <;> ((conv => whnf); repeat' (refine Z rfl ?_; conv => whnf)))
 all_goals try
  refine ⟨congrArg bD ?_⟩
  exact (sameB_false (fun e => by rw [Cond.e_iff] at e; simp_all)).symm
  done
 · skip
   have hl : a.parts.length = b.parts.length := by omega
   refine loop_upd tok {} [] (X := Nat) (fun i => [(5, iB i)]) (fun _ => []) [] (fun i => i ≤ a.parts.length ∧ a.parts.take i = b.parts.take i) (fun i => a.parts.length - i) 0 ?_
   ((conv => whnf); repeat' (refine Z rfl ?_; conv => whnf))
   refine And.intro ?_ ⟨⟨by omega, rfl⟩, fun i hΦ => ?_⟩
   · exact Kr
   obtain ⟨hi, hq⟩ := hΦ
   ((conv => whnf); repeat' (refine Z rfl ?_; conv => whnf))
   repeat' ((first | (intro hlq; (try simp only [SL] at hlq)) | refine Ks ?_ | refine Kq ?_ | refine Kt ?_ | refine Ka ?_ | refine Kb ?_ | refine Kc (hd := rfl) (e := ?_) | refine Kc (hd := Cond.cells_eq _) (e := ?_) | refine Kd (e := ?_) | refine Kl rfl ?_ | fail) <;> ((conv => whnf); repeat' (refine Z rfl ?_; conv => whnf)))
   refine ⟨fun h1 => ?_, fun h1 => ?_⟩ <;> (try simp only [BL] at h1) <;> ((conv => whnf); repeat' (refine Z rfl ?_; conv => whnf))
   · have h1' : i < a.parts.length := by omega
     have h2' : i < b.parts.length := by omega
     refine draw_rule tok (cf := {}) (by kernel_rfl) [.p 0, .p 1, .p 2, .p 3, .p 4, .p 5, .p 6, .p 7, .p 8, .p 9, .s 10 [4,9,3,8,1,2,6,7,0,5], .p 11] (by kernel_rfl) ?_
     ((conv => whnf); repeat' (refine Z rfl ?_; conv => whnf))
     repeat' ((first | (intro hlq; (try simp only [SL] at hlq)) | refine Meets.k (hp a.parts[i] (List.getElem_mem h1') b.parts[i]) ?_ | refine Ks ?_ | refine Kq ?_ | refine Kt ?_ | ((refine Kh (fun hb => ?_) fun hb => ?_) <;> (try simp only [BL] at hb)) | refine Ka ?_ | refine Kb ?_ | refine Kc (hd := rfl) (e := ?_) | refine Kc (hd := Cond.cells_eq _) (e := ?_) | refine Kd (e := ?_) | refine Kl rfl ?_ | fail) <;> ((conv => whnf); repeat' (refine Z rfl ?_; conv => whnf)))
     · exact ⟨congrArg bD (sameB_false fun e => ne_at h1' h2' (sameB_niff.1 (by assumption)) (by rw [e])).symm⟩
     · refine ⟨⟨i + 1, ?_, ⟨by omega, take_eq_snoc h1' h2' hq (sameB_iff.1 (by assumption))⟩, by omega⟩⟩
       repeat' (first | exact True.intro | exact rfl | refine And.intro ?_ ?_)
   · refine ⟨congrArg bD (sameB_true ?_).symm⟩
     have := take_all (by omega) hl hq
     rw [Cond.e_iff]
     exact ⟨by omega, by omega, by omega, this⟩
termination_by SizeOf.sizeOf a
decreasing_by assumption
theorem rsameParts_meets (xs ys : List Part) : Meets Tryz.prog 156 [.sl (xs.map Part.cells), .sl (ys.map Part.cells)] fun d => d = bD (sameB xs ys) := by
 have hp : ∀ x ∈ xs, ∀ y : Part, Meets Tryz.prog 156 [.sl (x.parts.map Part.cells), .sl (y.parts.map Part.cells)] fun d => d = bD (sameB x.parts y.parts) := fun x hx y => by
  have := List.sizeOf_lt_of_mem hx
  have := Part.szl x
  have hlt : SizeOf.sizeOf x.parts < SizeOf.sizeOf xs := by omega
  exact rsameParts_meets x.parts y.parts
 refine enter tok {} Tryz.func156 rfl (by kernel_rfl) Tryz.ntmps156 (by simp) fun B0 W0 V0 lent g0 => ?_
 ((conv => whnf); repeat' (refine Z rfl ?_; conv => whnf))
 repeat' ((first | (intro hlq; (try simp only [SL] at hlq)) | refine Ks ?_ | refine Kq ?_ | refine Kt ?_ | refine Ka ?_ | refine Kb ?_ | refine Kc (hd := rfl) (e := ?_) | refine Kc (hd := Cond.cells_eq _) (e := ?_) | refine Kd (e := ?_) | refine Kl rfl ?_ | fail) <;> ((conv => whnf); repeat' (refine Z rfl ?_; conv => whnf)))
 refine ⟨fun h0 => ?_, fun h0 => ?_⟩ <;> (try simp only [BL] at h0) <;> ((conv => whnf); repeat' (refine Z rfl ?_; conv => whnf))
 · exact ⟨congrArg bD (sameB_false (ne_len (by simpa using h0))).symm⟩
 have hl : xs.length = ys.length := by omega
 refine loop_upd tok {} [] (X := Nat) (fun i => [(5, iB i)]) (fun _ => []) [] (fun i => i ≤ xs.length ∧ xs.take i = ys.take i) (fun i => xs.length - i) 0 ?_
 ((conv => whnf); repeat' (refine Z rfl ?_; conv => whnf))
 refine And.intro ?_ ⟨⟨by omega, rfl⟩, fun i hΦ => ?_⟩
 · exact Kr
 obtain ⟨hi, hq⟩ := hΦ
 ((conv => whnf); repeat' (refine Z rfl ?_; conv => whnf))
 repeat' ((first | (intro hlq; (try simp only [SL] at hlq)) | refine Ks ?_ | refine Kq ?_ | refine Kt ?_ | refine Ka ?_ | refine Kb ?_ | refine Kc (hd := rfl) (e := ?_) | refine Kc (hd := Cond.cells_eq _) (e := ?_) | refine Kd (e := ?_) | refine Kl rfl ?_ | fail) <;> ((conv => whnf); repeat' (refine Z rfl ?_; conv => whnf)))
 refine ⟨fun h1 => ?_, fun h1 => ?_⟩ <;> (try simp only [BL] at h1) <;> ((conv => whnf); repeat' (refine Z rfl ?_; conv => whnf))
 · have h1' : i < xs.length := by omega
   have h2' : i < ys.length := by omega
   refine draw_rule tok (cf := {}) (by kernel_rfl) [.p 0, .p 1, .p 2, .p 3, .p 4, .p 5, .p 6, .p 7, .p 8, .p 9, .p 10, .p 11, .p 12, .p 13, .p 14, .p 15, .p 16, .p 17, .p 18, .p 19, .p 20, .p 21, .p 22, .p 23, .p 24, .p 25, .p 26, .p 27, .p 28, .p 29, .p 30, .p 31, .p 32, .p 33, .p 34, .s 35 [29,34,24,28,33,23,11,27,32,22,10,25,26,30,31,16,21,4,9,15,20,3,8,14,19,2,7,12,13,17,18,0,1,5,6], .p 36, .p 37] (by kernel_rfl) ?_
   ((conv => whnf); repeat' (refine Z rfl ?_; conv => whnf))
   repeat' ((first | (intro hlq; (try simp only [SL] at hlq)) | refine Meets.k (hp xs[i] (List.getElem_mem h1') ys[i]) ?_ | refine Ks ?_ | refine Kq ?_ | refine Kt ?_ | ((refine Kh (fun hb => ?_) fun hb => ?_) <;> (try simp only [BL] at hb)) | refine Ka ?_ | refine Kb ?_ | refine Kc (hd := rfl) (e := ?_) | refine Kc (hd := Part.cells_eq _) (e := ?_) | refine Kd (e := ?_) | refine Kl rfl ?_ | fail) <;> ((conv => whnf); repeat' (refine Z rfl ?_; conv => whnf)))
   clear hp
   all_goals
    first
     | (refine ⟨congrArg bD (sameB_false (ne_at h1' h2' fun e => ?_)).symm⟩
        rw [Part.e_iff] at e
        (try simp only [sameB_iff, sameB_niff] at *)
        simp_all
        done)
     | (refine ⟨⟨i + 1, ?_, ⟨by omega, take_eq_snoc h1' h2' hq (Part.e_iff.2 ⟨by omega, by omega, sameB_iff.1 (by assumption)⟩)⟩, by omega⟩⟩
        (repeat' (first | exact True.intro | exact rfl | refine And.intro ?_ ?_)))
 · exact ⟨congrArg bD (sameB_true (take_all (by omega) hl hq)).symm⟩
termination_by SizeOf.sizeOf xs
decreasing_by assumption
theorem rsameSteps_meets (xs ys : List Step) : Meets Tryz.prog 95 [.sl (xs.map Step.cells), .sl (ys.map Step.cells)] fun d => d = bD (sameB xs ys) := by
 have hp : ∀ x ∈ xs, ∀ y : Step, Meets Tryz.prog 95 [.sl (x.th.map Step.cells), .sl (y.th.map Step.cells)] fun d => d = bD (sameB x.th y.th) := fun x hx y => by
  have := List.sizeOf_lt_of_mem hx
  have := Step.szl x
  have hlt : SizeOf.sizeOf x.th < SizeOf.sizeOf xs := by omega
  exact rsameSteps_meets x.th y.th
 have hr : ∀ x ∈ xs, ∀ y : Step, Meets Tryz.prog 95 [.sl (x.el.map Step.cells), .sl (y.el.map Step.cells)] fun d => d = bD (sameB x.el y.el) := fun x hx y => by
  have := List.sizeOf_lt_of_mem hx
  have := Step.szl x
  have hlt : SizeOf.sizeOf x.el < SizeOf.sizeOf xs := by omega
  exact rsameSteps_meets x.el y.el
 refine enter tok {} Tryz.func95 rfl (by kernel_rfl) Tryz.ntmps95 (by simp) fun B0 W0 V0 lent g0 => ?_
 ((conv => whnf); repeat' (refine Z rfl ?_; conv => whnf))
 repeat' ((first | (intro hlq; (try simp only [SL] at hlq)) | refine Ks ?_ | refine Kq ?_ | refine Kt ?_ | refine Ka ?_ | refine Kb ?_ | refine Kc (hd := rfl) (e := ?_) | refine Kc (hd := Cond.cells_eq _) (e := ?_) | refine Kd (e := ?_) | refine Kl rfl ?_ | fail) <;> ((conv => whnf); repeat' (refine Z rfl ?_; conv => whnf)))
 refine ⟨fun h0 => ?_, fun h0 => ?_⟩ <;> (try simp only [BL] at h0) <;> ((conv => whnf); repeat' (refine Z rfl ?_; conv => whnf))
 · exact ⟨congrArg bD (sameB_false (ne_len (by simpa using h0))).symm⟩
 have hl : xs.length = ys.length := by omega
 refine loop_upd tok {} [] (X := Nat) (fun i => [(5, iB i)]) (fun _ => []) [] (fun i => i ≤ xs.length ∧ xs.take i = ys.take i) (fun i => xs.length - i) 0 ?_
 ((conv => whnf); repeat' (refine Z rfl ?_; conv => whnf))
 refine And.intro ?_ ⟨⟨by omega, rfl⟩, fun i hΦ => ?_⟩
 · exact Kr
 obtain ⟨hi, hq⟩ := hΦ
 ((conv => whnf); repeat' (refine Z rfl ?_; conv => whnf))
 repeat' ((first | (intro hlq; (try simp only [SL] at hlq)) | refine Ks ?_ | refine Kq ?_ | refine Kt ?_ | refine Ka ?_ | refine Kb ?_ | refine Kc (hd := rfl) (e := ?_) | refine Kc (hd := Cond.cells_eq _) (e := ?_) | refine Kd (e := ?_) | refine Kl rfl ?_ | fail) <;> ((conv => whnf); repeat' (refine Z rfl ?_; conv => whnf)))
 refine ⟨fun h1 => ?_, fun h1 => ?_⟩ <;> (try simp only [BL] at h1) <;> ((conv => whnf); repeat' (refine Z rfl ?_; conv => whnf))
 · have h1' : i < xs.length := by omega
   have h2' : i < ys.length := by omega
   refine draw_rule tok (cf := {}) (by kernel_rfl) [.p 0, .p 1, .p 2, .p 3, .p 4, .p 5, .p 6, .p 7, .p 8, .p 9, .p 10, .p 11, .p 12, .p 13, .p 14, .p 15, .p 16, .p 17, .p 18, .p 19, .p 20, .p 21, .p 22, .p 23, .p 24, .p 25, .p 26, .p 27, .p 28, .p 29, .p 30, .p 31, .p 32, .p 33, .p 34, .s 35 [29,34,24,28,33,23,11,27,32,22,10,25,26,30,31,16,21,4,9,15,20,3,8,14,19,2,7,12,13,17,18,0,1,5,6], .p 36, .p 37, .p 38, .p 39, .p 40, .p 41, .p 42, .p 43, .p 44, .p 45, .p 46, .p 47, .p 48, .s 49 [43,48,38,42,47,37,41,46,36,39,40,44,45], .p 50, .p 51, .p 52, .p 53, .p 54, .p 55, .p 56, .p 57, .p 58, .p 59, .p 60, .p 61, .p 62, .s 63 [57,62,52,56,61,51,55,60,50,53,54,58,59], .p 64, .p 65] (by kernel_rfl) ?_
   ((conv => whnf); repeat' (refine Z rfl ?_; conv => whnf))
   repeat' ((first | (intro hlq; (try simp only [SL] at hlq)) | refine Meets.k (rsameCond_meets xs[i].cond ys[i].cond) ?_ | refine Meets.k (hp xs[i] (List.getElem_mem h1') ys[i]) ?_ | refine Meets.k (hr xs[i] (List.getElem_mem h1') ys[i]) ?_ | refine Ks ?_ | refine Kq ?_ | refine Kt ?_ | ((refine Kh (fun hb => ?_) fun hb => ?_) <;> (try simp only [BL] at hb)) | refine Ka ?_ | refine Kb ?_ | refine Kc (hd := rfl) (e := ?_) | refine Kc (hd := Step.cells_eq _) (e := ?_) | refine Kd (e := ?_) | refine Kl rfl ?_ | fail) <;> ((conv => whnf); repeat' (refine Z rfl ?_; conv => whnf)))
   clear hp hr
   all_goals
    first
     | (refine ⟨congrArg bD (sameB_false (ne_at h1' h2' fun e => ?_)).symm⟩
        rw [Step.e_iff] at e
        (try simp only [sameB_iff, sameB_niff] at *)
        simp_all
        done)
     | (refine ⟨⟨i + 1, ?_, ⟨by omega, take_eq_snoc h1' h2' hq (Step.e_iff.2 ⟨by omega, by omega, sameB_iff.1 (by assumption), sameB_iff.1 (by assumption), sameB_iff.1 (by assumption)⟩)⟩, by omega⟩⟩
        (repeat' (first | exact True.intro | exact rfl | refine And.intro ?_ ?_)))
 · exact ⟨congrArg bD (sameB_true (take_all (by omega) hl hq)).symm⟩
termination_by SizeOf.sizeOf xs
decreasing_by all_goals assumption
theorem rsameDist_meets (a b : Distance) : Meets Tryz.prog 96 [a.d, b.d] fun d => d = bD (sameB a b) := by
 refine enter tok {} Tryz.func96 rfl (by kernel_rfl) Tryz.ntmps96 (by simp) fun B0 W0 V0 lent g0 => ?_
 ((conv => whnf); repeat' (refine Z rfl ?_; conv => whnf))
 repeat' ((first | (intro hlq; (try simp only [SL] at hlq)) | refine Meets.k (rsameParts_meets a.route b.route) ?_ | refine Ks ?_ | refine Kq ?_ | refine Kt ?_ | ((refine Kh (fun hb => ?_) fun hb => ?_) <;> (try simp only [BL] at hb)) | refine Ka ?_ | refine Kb ?_ | refine Kc (hd := rfl) (e := ?_) | refine Kc (hd := Cond.cells_eq _) (e := ?_) | refine Kd (e := ?_) | refine Kl rfl ?_ | fail) <;> ((conv => whnf); repeat' (refine Z rfl ?_; conv => whnf)))
 all_goals try
  refine ⟨congrArg bD ?_⟩
  exact (sameB_false (fun e => by (try simp only [sameB_iff, sameB_niff] at *); rw [Distance.e_iff] at e; simp_all)).symm
  done
 try simp only [sameB_iff, sameB_niff] at *
 have hl_cutoffs : a.cutoffs.length = b.cutoffs.length := by omega
 refine loop_upd tok {} [] (X := Nat) (fun i => [(5, iB i)]) (fun _ => []) [] (fun i => i ≤ a.cutoffs.length ∧ a.cutoffs.take i = b.cutoffs.take i) (fun i => a.cutoffs.length - i) 0 ?_
 ((conv => whnf); repeat' (refine Z rfl ?_; conv => whnf))
 refine And.intro ?_ ⟨⟨by omega, rfl⟩, fun i hΦ => ?_⟩
 · exact Kr
 obtain ⟨hi, hq⟩ := hΦ
 ((conv => whnf); repeat' (refine Z rfl ?_; conv => whnf))
 repeat' ((first | (intro hlq; (try simp only [SL] at hlq)) | refine Ks ?_ | refine Kq ?_ | refine Kt ?_ | refine Ka ?_ | refine Kb ?_ | refine Kc (hd := rfl) (e := ?_) | refine Kc (hd := Cond.cells_eq _) (e := ?_) | refine Kd (e := ?_) | refine Kl rfl ?_ | fail) <;> ((conv => whnf); repeat' (refine Z rfl ?_; conv => whnf)))
 refine ⟨fun h1 => ?_, fun h1 => ?_⟩ <;> (try simp only [BL] at h1) <;> ((conv => whnf); repeat' (refine Z rfl ?_; conv => whnf))
 · have h1' : i < a.cutoffs.length := by omega
   have h2' : i < b.cutoffs.length := by omega
   refine draw_rule tok (cf := {}) (by kernel_rfl) [.p 0, .p 1, .p 2, .p 3, .p 4, .p 5, .p 6, .p 7, .p 8, .p 9, .p 10] (by kernel_rfl) ?_
   ((conv => whnf); repeat' (refine Z rfl ?_; conv => whnf))
   repeat' ((first | (intro hlq; (try simp only [SL] at hlq)) | refine Ks ?_ | refine Kq ?_ | refine Kt ?_ | refine Ka ?_ | refine Kb ?_ | refine Kc (hd := rfl) (e := ?_) | refine Kc (hd := Cutoff.cells_eq _) (e := ?_) | refine Kd (e := ?_) | refine Kl rfl ?_ | fail) <;> ((conv => whnf); repeat' (refine Z rfl ?_; conv => whnf)))
   refine ⟨⟨⟨[a.cutoffs[i].mat, a.cutoffs[i].lap, a.cutoffs[i].limit], rfl, rfl⟩, ⟨[b.cutoffs[i].mat, b.cutoffs[i].lap, b.cutoffs[i].limit], rfl, rfl⟩⟩, ?_⟩
   ((conv => whnf); repeat' (refine Z rfl ?_; conv => whnf))
   repeat' ((first | (intro hlq; (try simp only [SL] at hlq)) | refine Ks ?_ | refine Kq ?_ | refine Kt ?_ | ((refine Kh (fun hb => ?_) fun hb => ?_) <;> (try simp only [BL] at hb)) | refine Ka ?_ | refine Kb ?_ | refine Kc (hd := rfl) (e := ?_) | refine Kc (hd := Cond.cells_eq _) (e := ?_) | refine Kd (e := ?_) | refine Kl rfl ?_ | fail) <;> ((conv => whnf); repeat' (refine Z rfl ?_; conv => whnf)))
   · exact ⟨congrArg bD (sameB_false fun e => ne_at h1' h2' (fun e2 => (by assumption : _ ≠ _) (Cutoff.c_iff.2 e2)) (by rw [e])).symm⟩
   · refine ⟨⟨i + 1, ?_, ⟨by omega, take_eq_snoc h1' h2' hq (Cutoff.c_iff.1 (Classical.not_not.1 (by assumption)))⟩, by omega⟩⟩
     repeat' (first | exact True.intro | exact rfl | refine And.intro ?_ ?_)
 have e_cutoffs := take_all (by omega) hl_cutoffs hq
 clear hi hq
 exact ⟨congrArg bD (sameB_true (Distance.e_iff.2 ⟨Classical.not_not.1 (by assumption), by omega, by omega, e_cutoffs, by assumption⟩)).symm⟩
theorem rSame_meets8 (a b : Course) : Meets Tryz.prog 57 [a.d, b.d] fun d => d = bD (sameB a b) := by
 refine enter tok {} Tryz.func57 rfl (by kernel_rfl) Tryz.ntmps57 (by simp) fun B0 W0 V0 lent g0 => ?_
 ((conv => whnf); repeat' (refine Z rfl ?_; conv => whnf))
 repeat' ((first | (intro hlq; (try simp only [SL] at hlq)) | refine Meets.k (rsameSteps_meets a.ties b.ties) ?_ | refine ⟨⟨⟨[a.faults.misses, a.faults.strays, a.faults.window, a.faults.residual, a.faults.drift], rfl, rfl⟩, ⟨[b.faults.misses, b.faults.strays, b.faults.window, b.faults.residual, b.faults.drift], rfl, rfl⟩⟩, ?_⟩ | refine Ks ?_ | refine Kq ?_ | refine Kt ?_ | ((refine Kh (fun hb => ?_) fun hb => ?_) <;> (try simp only [BL] at hb)) | refine Ka ?_ | refine Kb ?_ | refine Kc (hd := rfl) (e := ?_) | refine Kc (hd := Cond.cells_eq _) (e := ?_) | refine Kd (e := ?_) | refine Kl rfl ?_ | fail) <;> ((conv => whnf); repeat' (refine Z rfl ?_; conv => whnf)))
 all_goals try
  refine ⟨congrArg bD ?_⟩
  exact (sameB_false (fun e => by (try simp only [sameB_iff, sameB_niff] at *); rw [Course.e_iff, Faults.e_iff] at e; simp_all)).symm
  done
 try simp only [sameB_iff, sameB_niff] at *
 have hl_mats : a.mats.length = b.mats.length := by omega
 refine loop_upd tok {} [] (X := Nat) (fun i => [(5, iB i)]) (fun _ => []) [] (fun i => i ≤ a.mats.length ∧ a.mats.take i = b.mats.take i) (fun i => a.mats.length - i) 0 ?_
 ((conv => whnf); repeat' (refine Z rfl ?_; conv => whnf))
 refine And.intro ?_ ⟨⟨by omega, rfl⟩, fun i hΦ => ?_⟩
 · exact Kr
 obtain ⟨hi, hq⟩ := hΦ
 ((conv => whnf); repeat' (refine Z rfl ?_; conv => whnf))
 repeat' ((first | (intro hlq; (try simp only [SL] at hlq)) | refine Ks ?_ | refine Kq ?_ | refine Kt ?_ | refine Ka ?_ | refine Kb ?_ | refine Kc (hd := rfl) (e := ?_) | refine Kc (hd := Cond.cells_eq _) (e := ?_) | refine Kd (e := ?_) | refine Kl rfl ?_ | fail) <;> ((conv => whnf); repeat' (refine Z rfl ?_; conv => whnf)))
 refine ⟨fun h1 => ?_, fun h1 => ?_⟩ <;> (try simp only [BL] at h1) <;> ((conv => whnf); repeat' (refine Z rfl ?_; conv => whnf))
 · have h1' : i < a.mats.length := by omega
   have h2' : i < b.mats.length := by omega
   refine draw_rule tok (cf := {}) (by kernel_rfl) [.p 0, .p 1, .p 2, .p 3, .p 4, .p 5, .p 6, .p 7, .p 8, .p 9, .p 10] (by kernel_rfl) ?_
   ((conv => whnf); repeat' (refine Z rfl ?_; conv => whnf))
   repeat' ((first | (intro hlq; (try simp only [SL] at hlq)) | refine Ks ?_ | refine Kq ?_ | refine Kt ?_ | refine Ka ?_ | refine Kb ?_ | refine Kc (hd := rfl) (e := ?_) | refine Kc (hd := Mat.cells_eq _) (e := ?_) | refine Kd (e := ?_) | refine Kl rfl ?_ | fail) <;> ((conv => whnf); repeat' (refine Z rfl ?_; conv => whnf)))
   refine ⟨⟨⟨_, by simp [KScL, KSc], rfl⟩, ⟨_, by simp [KScL, KSc], rfl⟩⟩, ?_⟩
   ((conv => whnf); repeat' (refine Z rfl ?_; conv => whnf))
   repeat' ((first | (intro hlq; (try simp only [SL] at hlq)) | refine Ks ?_ | refine Kq ?_ | refine Kt ?_ | ((refine Kh (fun hb => ?_) fun hb => ?_) <;> (try simp only [BL] at hb)) | refine Ka ?_ | refine Kb ?_ | refine Kc (hd := rfl) (e := ?_) | refine Kc (hd := Cond.cells_eq _) (e := ?_) | refine Kd (e := ?_) | refine Kl rfl ?_ | fail) <;> ((conv => whnf); repeat' (refine Z rfl ?_; conv => whnf)))
   · exact ⟨congrArg bD (sameB_false fun e => ne_at h1' h2' (fun e2 => (by assumption : _ ≠ _) (Mat.c_iff.2 e2)) (by rw [e])).symm⟩
   · refine ⟨⟨i + 1, ?_, ⟨by omega, take_eq_snoc h1' h2' hq (Mat.c_iff.1 (Classical.not_not.1 (by assumption)))⟩, by omega⟩⟩
     repeat' (first | exact True.intro | exact rfl | refine And.intro ?_ ?_)
 have e_mats := take_all (by omega) hl_mats hq
 clear hi hq
 have hl_legs : a.legs.length = b.legs.length := by omega
 refine loop_upd tok {} [] (X := Nat) (fun i => [(6, iB i)]) (fun _ => []) [] (fun i => i ≤ a.legs.length ∧ a.legs.take i = b.legs.take i) (fun i => a.legs.length - i) 0 ?_
 ((conv => whnf); repeat' (refine Z rfl ?_; conv => whnf))
 refine And.intro ?_ ⟨⟨by omega, rfl⟩, fun i hΦ => ?_⟩
 · exact Kr
 obtain ⟨hi, hq⟩ := hΦ
 ((conv => whnf); repeat' (refine Z rfl ?_; conv => whnf))
 repeat' ((first | (intro hlq; (try simp only [SL] at hlq)) | refine Ks ?_ | refine Kq ?_ | refine Kt ?_ | refine Ka ?_ | refine Kb ?_ | refine Kc (hd := rfl) (e := ?_) | refine Kc (hd := Cond.cells_eq _) (e := ?_) | refine Kd (e := ?_) | refine Kl rfl ?_ | fail) <;> ((conv => whnf); repeat' (refine Z rfl ?_; conv => whnf)))
 refine ⟨fun h1 => ?_, fun h1 => ?_⟩ <;> (try simp only [BL] at h1) <;> ((conv => whnf); repeat' (refine Z rfl ?_; conv => whnf))
 · have h1' : i < a.legs.length := by omega
   have h2' : i < b.legs.length := by omega
   refine draw_rule tok (cf := {}) (by kernel_rfl) [.p 0, .p 1, .p 2, .p 3, .p 4, .p 5, .p 6, .p 7, .p 8, .p 9, .p 10] (by kernel_rfl) ?_
   ((conv => whnf); repeat' (refine Z rfl ?_; conv => whnf))
   repeat' ((first | (intro hlq; (try simp only [SL] at hlq)) | refine Ks ?_ | refine Kq ?_ | refine Kt ?_ | refine Ka ?_ | refine Kb ?_ | refine Kc (hd := rfl) (e := ?_) | refine Kc (hd := Leg.cells_eq _) (e := ?_) | refine Kd (e := ?_) | refine Kl rfl ?_ | fail) <;> ((conv => whnf); repeat' (refine Z rfl ?_; conv => whnf)))
   refine ⟨⟨⟨[a.legs[i].src, a.legs[i].dst, a.legs[i].lo, a.legs[i].hi], rfl, rfl⟩, ⟨[b.legs[i].src, b.legs[i].dst, b.legs[i].lo, b.legs[i].hi], rfl, rfl⟩⟩, ?_⟩
   ((conv => whnf); repeat' (refine Z rfl ?_; conv => whnf))
   repeat' ((first | (intro hlq; (try simp only [SL] at hlq)) | refine Ks ?_ | refine Kq ?_ | refine Kt ?_ | ((refine Kh (fun hb => ?_) fun hb => ?_) <;> (try simp only [BL] at hb)) | refine Ka ?_ | refine Kb ?_ | refine Kc (hd := rfl) (e := ?_) | refine Kc (hd := Cond.cells_eq _) (e := ?_) | refine Kd (e := ?_) | refine Kl rfl ?_ | fail) <;> ((conv => whnf); repeat' (refine Z rfl ?_; conv => whnf)))
   · exact ⟨congrArg bD (sameB_false fun e => ne_at h1' h2' (fun e2 => (by assumption : _ ≠ _) (Leg.c_iff.2 e2)) (by rw [e])).symm⟩
   · refine ⟨⟨i + 1, ?_, ⟨by omega, take_eq_snoc h1' h2' hq (Leg.c_iff.1 (Classical.not_not.1 (by assumption)))⟩, by omega⟩⟩
     repeat' (first | exact True.intro | exact rfl | refine And.intro ?_ ?_)
 have e_legs := take_all (by omega) hl_legs hq
 clear hi hq
 have hl_distances : a.distances.length = b.distances.length := by omega
 refine loop_upd tok {} [] (X := Nat) (fun i => [(7, iB i)]) (fun _ => []) [] (fun i => i ≤ a.distances.length ∧ a.distances.take i = b.distances.take i) (fun i => a.distances.length - i) 0 ?_
 ((conv => whnf); repeat' (refine Z rfl ?_; conv => whnf))
 refine And.intro ?_ ⟨⟨by omega, rfl⟩, fun i hΦ => ?_⟩
 · exact Kr
 obtain ⟨hi, hq⟩ := hΦ
 ((conv => whnf); repeat' (refine Z rfl ?_; conv => whnf))
 repeat' ((first | (intro hlq; (try simp only [SL] at hlq)) | refine Ks ?_ | refine Kq ?_ | refine Kt ?_ | refine Ka ?_ | refine Kb ?_ | refine Kc (hd := rfl) (e := ?_) | refine Kc (hd := Cond.cells_eq _) (e := ?_) | refine Kd (e := ?_) | refine Kl rfl ?_ | fail) <;> ((conv => whnf); repeat' (refine Z rfl ?_; conv => whnf)))
 refine ⟨fun h1 => ?_, fun h1 => ?_⟩ <;> (try simp only [BL] at h1) <;> ((conv => whnf); repeat' (refine Z rfl ?_; conv => whnf))
 · have h1' : i < a.distances.length := by omega
   have h2' : i < b.distances.length := by omega
   refine draw_rule tok (cf := {}) (by kernel_rfl) [.p 0, .p 1, .p 2, .p 3, .p 4, .p 5, .p 6, .p 7, .p 8, .p 9, .s 10 [4,9,3,8,1,2,6,7,0,5], .p 11] (by kernel_rfl) ?_
   ((conv => whnf); repeat' (refine Z rfl ?_; conv => whnf))
   repeat' ((first | (intro hlq; (try simp only [SL] at hlq)) | refine Meets.k (rsameDist_meets a.distances[i] b.distances[i]) ?_ | refine Ks ?_ | refine Kq ?_ | refine Kt ?_ | ((refine Kh (fun hb => ?_) fun hb => ?_) <;> (try simp only [BL] at hb)) | refine Ka ?_ | refine Kb ?_ | refine Kc (hd := rfl) (e := ?_) | refine Kc (hd := Distance.cells_eq _) (e := ?_) | refine Kd (e := ?_) | refine Kl rfl ?_ | fail) <;> ((conv => whnf); repeat' (refine Z rfl ?_; conv => whnf)))
   · exact ⟨congrArg bD (sameB_false fun e => ne_at h1' h2' (sameB_niff.1 (by assumption)) (by rw [e])).symm⟩
   · refine ⟨⟨i + 1, ?_, ⟨by omega, take_eq_snoc h1' h2' hq (sameB_iff.1 (by assumption))⟩, by omega⟩⟩
     repeat' (first | exact True.intro | exact rfl | refine And.intro ?_ ?_)
 have e_distances := take_all (by omega) hl_distances hq
 clear hi hq
 have hl_waves : a.waves.length = b.waves.length := by omega
 refine loop_upd tok {} [] (X := Nat) (fun i => [(8, iB i)]) (fun _ => []) [] (fun i => i ≤ a.waves.length ∧ a.waves.take i = b.waves.take i) (fun i => a.waves.length - i) 0 ?_
 ((conv => whnf); repeat' (refine Z rfl ?_; conv => whnf))
 refine And.intro ?_ ⟨⟨by omega, rfl⟩, fun i hΦ => ?_⟩
 · exact Kr
 obtain ⟨hi, hq⟩ := hΦ
 ((conv => whnf); repeat' (refine Z rfl ?_; conv => whnf))
 repeat' ((first | (intro hlq; (try simp only [SL] at hlq)) | refine Ks ?_ | refine Kq ?_ | refine Kt ?_ | refine Ka ?_ | refine Kb ?_ | refine Kc (hd := rfl) (e := ?_) | refine Kc (hd := Cond.cells_eq _) (e := ?_) | refine Kd (e := ?_) | refine Kl rfl ?_ | fail) <;> ((conv => whnf); repeat' (refine Z rfl ?_; conv => whnf)))
 refine ⟨fun h1 => ?_, fun h1 => ?_⟩ <;> (try simp only [BL] at h1) <;> ((conv => whnf); repeat' (refine Z rfl ?_; conv => whnf))
 · have h1' : i < a.waves.length := by omega
   have h2' : i < b.waves.length := by omega
   refine draw_rule tok (cf := {}) (by kernel_rfl) [.p 0, .p 1, .p 2, .p 3, .p 4, .p 5, .p 6, .p 7, .p 8, .p 9, .p 10] (by kernel_rfl) ?_
   ((conv => whnf); repeat' (refine Z rfl ?_; conv => whnf))
   repeat' ((first | (intro hlq; (try simp only [SL] at hlq)) | refine Ks ?_ | refine Kq ?_ | refine Kt ?_ | refine Ka ?_ | refine Kb ?_ | refine Kc (hd := rfl) (e := ?_) | refine Kc (hd := Wave.cells_eq _) (e := ?_) | refine Kd (e := ?_) | refine Kl rfl ?_ | fail) <;> ((conv => whnf); repeat' (refine Z rfl ?_; conv => whnf)))
   refine ⟨⟨⟨_, by simp [KScL, KSc], rfl⟩, ⟨_, by simp [KScL, KSc], rfl⟩⟩, ?_⟩
   ((conv => whnf); repeat' (refine Z rfl ?_; conv => whnf))
   repeat' ((first | (intro hlq; (try simp only [SL] at hlq)) | refine Ks ?_ | refine Kq ?_ | refine Kt ?_ | ((refine Kh (fun hb => ?_) fun hb => ?_) <;> (try simp only [BL] at hb)) | refine Ka ?_ | refine Kb ?_ | refine Kc (hd := rfl) (e := ?_) | refine Kc (hd := Cond.cells_eq _) (e := ?_) | refine Kd (e := ?_) | refine Kl rfl ?_ | fail) <;> ((conv => whnf); repeat' (refine Z rfl ?_; conv => whnf)))
   · exact ⟨congrArg bD (sameB_false fun e => ne_at h1' h2' (fun e2 => (by assumption : _ ≠ _) (Wave.c_iff.2 e2)) (by rw [e])).symm⟩
   · refine ⟨⟨i + 1, ?_, ⟨by omega, take_eq_snoc h1' h2' hq (Wave.c_iff.1 (Classical.not_not.1 (by assumption)))⟩, by omega⟩⟩
     repeat' (first | exact True.intro | exact rfl | refine And.intro ?_ ?_)
 have e_waves := take_all (by omega) hl_waves hq
 clear hi hq
 have hl_offences : a.offences.length = b.offences.length := by omega
 refine loop_upd tok {} [] (X := Nat) (fun i => [(9, iB i)]) (fun _ => []) [] (fun i => i ≤ a.offences.length ∧ a.offences.take i = b.offences.take i) (fun i => a.offences.length - i) 0 ?_
 ((conv => whnf); repeat' (refine Z rfl ?_; conv => whnf))
 refine And.intro ?_ ⟨⟨by omega, rfl⟩, fun i hΦ => ?_⟩
 · exact Kr
 obtain ⟨hi, hq⟩ := hΦ
 ((conv => whnf); repeat' (refine Z rfl ?_; conv => whnf))
 repeat' ((first | (intro hlq; (try simp only [SL] at hlq)) | refine Ks ?_ | refine Kq ?_ | refine Kt ?_ | refine Ka ?_ | refine Kb ?_ | refine Kc (hd := rfl) (e := ?_) | refine Kc (hd := Cond.cells_eq _) (e := ?_) | refine Kd (e := ?_) | refine Kl rfl ?_ | fail) <;> ((conv => whnf); repeat' (refine Z rfl ?_; conv => whnf)))
 refine ⟨fun h1 => ?_, fun h1 => ?_⟩ <;> (try simp only [BL] at h1) <;> ((conv => whnf); repeat' (refine Z rfl ?_; conv => whnf))
 · have h1' : i < a.offences.length := by omega
   have h2' : i < b.offences.length := by omega
   refine draw_rule tok (cf := {}) (by kernel_rfl) [.p 0, .p 1, .p 2, .p 3, .p 4, .p 5, .p 6, .p 7, .p 8, .p 9, .p 10] (by kernel_rfl) ?_
   ((conv => whnf); repeat' (refine Z rfl ?_; conv => whnf))
   repeat' ((first | (intro hlq; (try simp only [SL] at hlq)) | refine Ks ?_ | refine Kq ?_ | refine Kt ?_ | refine Ka ?_ | refine Kb ?_ | refine Kc (hd := rfl) (e := ?_) | refine Kc (hd := Offence.cells_eq _) (e := ?_) | refine Kd (e := ?_) | refine Kl rfl ?_ | fail) <;> ((conv => whnf); repeat' (refine Z rfl ?_; conv => whnf)))
   refine ⟨⟨⟨_, by simp [KScL, KSc], rfl⟩, ⟨_, by simp [KScL, KSc], rfl⟩⟩, ?_⟩
   ((conv => whnf); repeat' (refine Z rfl ?_; conv => whnf))
   repeat' ((first | (intro hlq; (try simp only [SL] at hlq)) | refine Ks ?_ | refine Kq ?_ | refine Kt ?_ | ((refine Kh (fun hb => ?_) fun hb => ?_) <;> (try simp only [BL] at hb)) | refine Ka ?_ | refine Kb ?_ | refine Kc (hd := rfl) (e := ?_) | refine Kc (hd := Cond.cells_eq _) (e := ?_) | refine Kd (e := ?_) | refine Kl rfl ?_ | fail) <;> ((conv => whnf); repeat' (refine Z rfl ?_; conv => whnf)))
   · exact ⟨congrArg bD (sameB_false fun e => ne_at h1' h2' (fun e2 => (by assumption : _ ≠ _) (Offence.c_iff.2 e2)) (by rw [e])).symm⟩
   · refine ⟨⟨i + 1, ?_, ⟨by omega, take_eq_snoc h1' h2' hq (Offence.c_iff.1 (Classical.not_not.1 (by assumption)))⟩, by omega⟩⟩
     repeat' (first | exact True.intro | exact rfl | refine And.intro ?_ ?_)
 have e_offences := take_all (by omega) hl_offences hq
 clear hi hq
 have hl_categories : a.categories.length = b.categories.length := by omega
 refine loop_upd tok {} [] (X := Nat) (fun i => [(10, iB i)]) (fun _ => []) [] (fun i => i ≤ a.categories.length ∧ a.categories.take i = b.categories.take i) (fun i => a.categories.length - i) 0 ?_
 ((conv => whnf); repeat' (refine Z rfl ?_; conv => whnf))
 refine And.intro ?_ ⟨⟨by omega, rfl⟩, fun i hΦ => ?_⟩
 · exact Kr
 obtain ⟨hi, hq⟩ := hΦ
 ((conv => whnf); repeat' (refine Z rfl ?_; conv => whnf))
 repeat' ((first | (intro hlq; (try simp only [SL] at hlq)) | refine Ks ?_ | refine Kq ?_ | refine Kt ?_ | refine Ka ?_ | refine Kb ?_ | refine Kc (hd := rfl) (e := ?_) | refine Kc (hd := Cond.cells_eq _) (e := ?_) | refine Kd (e := ?_) | refine Kl rfl ?_ | fail) <;> ((conv => whnf); repeat' (refine Z rfl ?_; conv => whnf)))
 refine ⟨fun h1 => ?_, fun h1 => ?_⟩ <;> (try simp only [BL] at h1) <;> ((conv => whnf); repeat' (refine Z rfl ?_; conv => whnf))
 · have h1' : i < a.categories.length := by omega
   have h2' : i < b.categories.length := by omega
   refine draw_rule tok (cf := {}) (by kernel_rfl) [.p 0, .p 1, .p 2, .p 3, .p 4, .p 5, .p 6, .p 7, .p 8, .p 9, .p 10] (by kernel_rfl) ?_
   ((conv => whnf); repeat' (refine Z rfl ?_; conv => whnf))
   repeat' ((first | (intro hlq; (try simp only [SL] at hlq)) | refine Ks ?_ | refine Kq ?_ | refine Kt ?_ | refine Ka ?_ | refine Kb ?_ | refine Kc (hd := rfl) (e := ?_) | refine Kc (hd := Category.cells_eq _) (e := ?_) | refine Kd (e := ?_) | refine Kl rfl ?_ | fail) <;> ((conv => whnf); repeat' (refine Z rfl ?_; conv => whnf)))
   refine ⟨⟨⟨_, by simp [KScL, KSc], rfl⟩, ⟨_, by simp [KScL, KSc], rfl⟩⟩, ?_⟩
   ((conv => whnf); repeat' (refine Z rfl ?_; conv => whnf))
   repeat' ((first | (intro hlq; (try simp only [SL] at hlq)) | refine Ks ?_ | refine Kq ?_ | refine Kt ?_ | ((refine Kh (fun hb => ?_) fun hb => ?_) <;> (try simp only [BL] at hb)) | refine Ka ?_ | refine Kb ?_ | refine Kc (hd := rfl) (e := ?_) | refine Kc (hd := Cond.cells_eq _) (e := ?_) | refine Kd (e := ?_) | refine Kl rfl ?_ | fail) <;> ((conv => whnf); repeat' (refine Z rfl ?_; conv => whnf)))
   · exact ⟨congrArg bD (sameB_false fun e => ne_at h1' h2' (fun e2 => (by assumption : _ ≠ _) (Category.c_iff.2 e2)) (by rw [e])).symm⟩
   · refine ⟨⟨i + 1, ?_, ⟨by omega, take_eq_snoc h1' h2' hq (Category.c_iff.1 (Classical.not_not.1 (by assumption)))⟩, by omega⟩⟩
     repeat' (first | exact True.intro | exact rfl | refine And.intro ?_ ?_)
 have e_categories := take_all (by omega) hl_categories hq
 clear hi hq
 have hl_prizes : a.prizes.length = b.prizes.length := by omega
 refine loop_upd tok {} [] (X := Nat) (fun i => [(11, iB i)]) (fun _ => []) [] (fun i => i ≤ a.prizes.length ∧ a.prizes.take i = b.prizes.take i) (fun i => a.prizes.length - i) 0 ?_
 ((conv => whnf); repeat' (refine Z rfl ?_; conv => whnf))
 refine And.intro ?_ ⟨⟨by omega, rfl⟩, fun i hΦ => ?_⟩
 · exact Kr
 obtain ⟨hi, hq⟩ := hΦ
 ((conv => whnf); repeat' (refine Z rfl ?_; conv => whnf))
 repeat' ((first | (intro hlq; (try simp only [SL] at hlq)) | refine Ks ?_ | refine Kq ?_ | refine Kt ?_ | refine Ka ?_ | refine Kb ?_ | refine Kc (hd := rfl) (e := ?_) | refine Kc (hd := Cond.cells_eq _) (e := ?_) | refine Kd (e := ?_) | refine Kl rfl ?_ | fail) <;> ((conv => whnf); repeat' (refine Z rfl ?_; conv => whnf)))
 refine ⟨fun h1 => ?_, fun h1 => ?_⟩ <;> (try simp only [BL] at h1) <;> ((conv => whnf); repeat' (refine Z rfl ?_; conv => whnf))
 · have h1' : i < a.prizes.length := by omega
   have h2' : i < b.prizes.length := by omega
   refine draw_rule tok (cf := {}) (by kernel_rfl) [.p 0, .p 1, .p 2, .p 3, .p 4, .p 5, .p 6, .p 7, .p 8, .p 9, .p 10] (by kernel_rfl) ?_
   ((conv => whnf); repeat' (refine Z rfl ?_; conv => whnf))
   repeat' ((first | (intro hlq; (try simp only [SL] at hlq)) | refine Ks ?_ | refine Kq ?_ | refine Kt ?_ | refine Ka ?_ | refine Kb ?_ | refine Kc (hd := rfl) (e := ?_) | refine Kc (hd := Prize.cells_eq _) (e := ?_) | refine Kd (e := ?_) | refine Kl rfl ?_ | fail) <;> ((conv => whnf); repeat' (refine Z rfl ?_; conv => whnf)))
   refine ⟨⟨⟨[a.prizes[i].distance, a.prizes[i].category, a.prizes[i].rank, a.prizes[i].amount], rfl, rfl⟩, ⟨[b.prizes[i].distance, b.prizes[i].category, b.prizes[i].rank, b.prizes[i].amount], rfl, rfl⟩⟩, ?_⟩
   ((conv => whnf); repeat' (refine Z rfl ?_; conv => whnf))
   repeat' ((first | (intro hlq; (try simp only [SL] at hlq)) | refine Ks ?_ | refine Kq ?_ | refine Kt ?_ | ((refine Kh (fun hb => ?_) fun hb => ?_) <;> (try simp only [BL] at hb)) | refine Ka ?_ | refine Kb ?_ | refine Kc (hd := rfl) (e := ?_) | refine Kc (hd := Cond.cells_eq _) (e := ?_) | refine Kd (e := ?_) | refine Kl rfl ?_ | fail) <;> ((conv => whnf); repeat' (refine Z rfl ?_; conv => whnf)))
   · exact ⟨congrArg bD (sameB_false fun e => ne_at h1' h2' (fun e2 => (by assumption : _ ≠ _) (Prize.c_iff.2 e2)) (by rw [e])).symm⟩
   · refine ⟨⟨i + 1, ?_, ⟨by omega, take_eq_snoc h1' h2' hq (Prize.c_iff.1 (Classical.not_not.1 (by assumption)))⟩, by omega⟩⟩
     repeat' (first | exact True.intro | exact rfl | refine And.intro ?_ ?_)
 have e_prizes := take_all (by omega) hl_prizes hq
 clear hi hq
 refine ⟨congrArg bD (sameB_true (Course.e_iff.2 ⟨Classical.not_not.1 (by assumption), Faults.e_iff.2 (Classical.not_not.1 (by assumption)), by omega, by omega, e_mats, e_legs, e_distances, e_waves, e_offences, e_categories, e_prizes, by assumption⟩)).symm⟩
theorem RSame_meets8 (a b : Course) : Meets Tryz.prog 19 [a.d, b.d] fun d => d = bD (sameB a b) := by
 refine enter tok {} Tryz.func19 rfl (by kernel_rfl) Tryz.ntmps19 (by simp) fun B0 W0 V0 lent g0 => ?_
 ((conv => whnf); repeat' (refine Z rfl ?_; conv => whnf))
 repeat' ((first | (intro hlq; (try simp only [SL] at hlq)) | refine Meets.k (rSame_meets8 a b) ?_ | refine Ks ?_ | refine Kq ?_ | refine Kt ?_ | ((refine Kh (fun hb => ?_) fun hb => ?_) <;> (try simp only [BL] at hb)) | refine Ka ?_ | refine Kb ?_ | refine Kc (hd := rfl) (e := ?_) | refine Kc (hd := Cond.cells_eq _) (e := ?_) | refine Kd (e := ?_) | refine Kl rfl ?_ | fail) <;> ((conv => whnf); repeat' (refine Z rfl ?_; conv => whnf)))
 exact ⟨rfl⟩
end Go.Proofs.YteckbkljaneppaaGreatDoor.Dx
