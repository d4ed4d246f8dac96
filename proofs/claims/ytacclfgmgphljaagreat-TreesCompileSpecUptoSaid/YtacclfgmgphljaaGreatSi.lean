/- The examples of chapter 10. -/
import Derived.Test.YtacclfgmgphljaaGreatSg
import Derived.Test.YtacclfgmgphljaaGreatSh
set_option linter.all false
namespace Go.Proofs.YtacclfgmgphljaaGreat.Dx
open Go Go.RowKit
set_option maxRecDepth 100000
set_option maxHeartbeats 16000000
theorem treeL_ok {l : List Step} (h : tiesE l = 0) : (treeL l).ok :=
 tree3_ok (valsL_ok l (by decide)) (valsL_ok l (by decide)) (valsL_ok l (by decide)) fun x _ => appL_crits x l (ties_ok h).1 [] ⟨by simp, by simp⟩
theorem vals_of {xs ys : List Int} (h : ys.Pairwise (· < ·)) (hm : ∀ x, x ∈ ys ↔ x ∈ xs) : vals1 xs = ys :=
 sorted_ext (vals1_spec xs).1 h fun x => ((vals1_spec xs).2 x).trans (hm x).symm
def exBy (n : Int) : Step := ⟨1, n, ⟨0, 0, 0, []⟩, [], []⟩
def exC (n : Int) : Cond := ⟨1, 2, n, []⟩
def exL (n : Int) : List Step := [⟨2, 0, exC n, [exBy 4], [exBy 5]⟩]
theorem ok_by (n : Int) : (exBy n).ok := Step.ok_iff.2 ⟨Cond.ok_iff.2 ⟨by simp [exBy], by simp [exBy]⟩, ⟨by simp [exBy], by simp [exBy]⟩, by simp [exBy], by simp [exBy]⟩
theorem ok_ex (n : Int) : ∀ s ∈ exL n, s.ok := by
 intro s hs
 simp only [exL, List.mem_cons, List.not_mem_nil, or_false] at hs
 rw [hs]
 exact Step.ok_iff.2 ⟨Cond.ok_iff.2 ⟨by simp [exC], by simp [exC]⟩, ⟨by simp, by simp [ok_by]⟩, by simp, by simp [ok_by]⟩
theorem exBy_meets (n : Int) : Meets Tryz.prog 32 [iD n] fun d => d = .sl ([exBy n].map Step.cells) := by
 refine enter tok {} Tryz.func32 rfl (by kernel_rfl) Tryz.ntmps32 (by simp) fun B0 W0 V0 lent g0 => ?_
 ((conv => whnf); repeat' (refine Z rfl ?_; conv => whnf))
 repeat' ((first | (intro hlq; (try simp only [SL] at hlq)) | refine Ks ?_ | refine Kq ?_ | refine Kt ?_ | ((refine Kh (fun hb => ?_) fun hb => ?_) <;> (try simp only [BL] at hb)) | refine Ka ?_ | refine Kb ?_ | refine Kc (hd := rfl) (e := ?_) | refine Kc (hd := icells_eq _) (e := ?_) | refine Kd (e := ?_) | refine Kl rfl ?_ | fail) <;> ((conv => whnf); repeat' (refine Z rfl ?_; conv => whnf)))
 exact ⟨rfl⟩
theorem exAt_meets (n : Int) : Meets Tryz.prog 10 [iD 2, iD n] fun d => d = .agg (exC n).cells := by
 refine enter tok {} Tryz.func10 rfl (by kernel_rfl) Tryz.ntmps10 (by simp) fun B0 W0 V0 lent g0 => ?_
 ((conv => whnf); repeat' (refine Z rfl ?_; conv => whnf))
 repeat' ((first | (intro hlq; (try simp only [SL] at hlq)) | refine Ks ?_ | refine Kq ?_ | refine Kt ?_ | ((refine Kh (fun hb => ?_) fun hb => ?_) <;> (try simp only [BL] at hb)) | refine Ka ?_ | refine Kb ?_ | refine Kc (hd := rfl) (e := ?_) | refine Kc (hd := icells_eq _) (e := ?_) | refine Kd (e := ?_) | refine Kl rfl ?_ | fail) <;> ((conv => whnf); repeat' (refine Z rfl ?_; conv => whnf)))
 exact ⟨rfl⟩
theorem exChoice_meets (n : Int) : Meets Tryz.prog 9 [.agg (exC n).cells, iD 4, iD 5] fun d => d = .sl ((exL n).map Step.cells) := by
 refine enter tok {} Tryz.func9 rfl (by kernel_rfl) Tryz.ntmps9 (by simp) fun B0 W0 V0 lent g0 => ?_
 ((conv => whnf); repeat' (refine Z rfl ?_; conv => whnf))
 refine draw_rule tok (cf := {}) (by kernel_rfl) [.p 0, .p 1, .p 3, .s 2 [1], .s 4 [3], .p 5, .p 6, .p 7] (by kernel_rfl) ?_
 ((conv => whnf); repeat' (refine Z rfl ?_; conv => whnf))
 repeat' ((first | (intro hlq; (try simp only [SL] at hlq)) | refine Meets.k (exBy_meets 4) ?_ | refine Meets.k (exBy_meets 5) ?_ | refine Ks ?_ | refine Kq ?_ | refine Kt ?_ | ((refine Kh (fun hb => ?_) fun hb => ?_) <;> (try simp only [BL] at hb)) | refine Ka ?_ | refine Kb ?_ | refine Kc (hd := rfl) (e := ?_) | refine Kc (hd := icells_eq _) (e := ?_) | refine Kd (e := ?_) | refine Kl rfl ?_ | fail) <;> ((conv => whnf); repeat' (refine Z rfl ?_; conv => whnf)))
 exact ⟨rfl⟩
def exT : Tr := .node 2 3 (.leaf [4]) (.leaf [5])
def exN : List Node := [⟨2, 3, 1, 2, []⟩, ⟨0, 0, 0, 0, [4]⟩, ⟨0, 0, 0, 0, [5]⟩]
def exM : List Node := [⟨0, 0, 0, 0, [5]⟩]
theorem ties_ex : tiesE (exL 3) = 0 ∧ tiesE (exL 4001) = 0 := ⟨by kernel_rfl, by kernel_rfl⟩
theorem vals_ex3 : valsL (exL 3) 1 = [0] ∧ valsL (exL 3) 2 = [0, 3] ∧ valsL (exL 3) 3 = [0] := by
 refine ⟨vals_of (by simp) fun x => ?_, vals_of (by simp) fun x => ?_, vals_of (by simp) fun x => ?_⟩
 · rw [show (exL 3).flatMap (Step.nums 1) ++ [0] = [0] by kernel_rfl]
 · rw [show (exL 3).flatMap (Step.nums 2) ++ [0] = [3, 0] by kernel_rfl]; simp; omega
 · rw [show (exL 3).flatMap (Step.nums 3) ++ [0] = [0] by kernel_rfl]
theorem vals_ex4 : valsL (exL 4001) 1 = [0] ∧ valsL (exL 4001) 2 = [0] ∧ valsL (exL 4001) 3 = [0] := by
 refine ⟨vals_of (by simp) fun x => ?_, vals_of (by simp) fun x => ?_, vals_of (by simp) fun x => ?_⟩
 · rw [show (exL 4001).flatMap (Step.nums 1) ++ [0] = [0] by kernel_rfl]
 · rw [show (exL 4001).flatMap (Step.nums 2) ++ [0] = [0] by kernel_rfl]
 · rw [show (exL 4001).flatMap (Step.nums 3) ++ [0] = [0] by kernel_rfl]
theorem tree_ex3 : treeL (exL 3) = exT := by
 obtain ⟨h1, h2, h3⟩ := vals_ex3
 rw [treeL, h1, h2, h3]; kernel_rfl
theorem tree_ex4 : treeL (exL 4001) = .leaf [5] := by
 obtain ⟨h1, h2, h3⟩ := vals_ex4
 rw [treeL, h1, h2, h3]; kernel_rfl
theorem ser_ex3 : serT exT = exN := by kernel_rfl
theorem ser_ex4 : serT (.leaf [5]) = exM := by kernel_rfl
theorem compile_ex3 : compileE (exL 3) = (exN, 0) := by
 rw [compileE, if_pos ties_ex.1, tree_ex3, ser_ex3, if_pos (by rw [show (preT exT []).length = 3 by kernel_rfl]; omega)]
theorem compile_ex4 : compileE (exL 4001) = (exM, 0) := by
 rw [compileE, if_pos ties_ex.2, tree_ex4, ser_ex4, if_pos (by rw [show (preT (.leaf [5]) []).length = 1 by kernel_rfl]; omega)]
theorem exT_ok : exT.ok := by rw [← tree_ex3]; exact treeL_ok ties_ex.1
theorem check_ex : checkE exN = 0 := by rw [← ser_ex3]; exact ser_check exT_ok (by rw [show (preT exT []).length = 3 by kernel_rfl]; omega)
theorem den_ex : Den exN 0 exT := by rw [← ser_ex3]; exact ser_root exT_ok
theorem eval_ex : evalE exN ⟨0, 4, 0⟩ = ([4], 0) := by
 rw [evalE, if_pos check_ex, if_pos (by kernel_rfl), treeOf_eq den_ex]; kernel_rfl
theorem reach_ex : reachE exN 0 = (⟨0, 0, 0⟩, true, 0) := by
 rw [reachE, if_pos check_ex, if_neg (by simp [exN]), treeOf_eq den_ex, show (0 : Int).toNat = 0 from rfl, treeAt_eq den_ex]; kernel_rfl
theorem check_nil : checkE [] = 100 := checkE_bad (by simp) fun h => h.ne rfl
theorem exCompile3 : Meets Tryz.prog 6 [.sl ((exL 3).map Step.cells)] fun d => d = .tup [treeD exN, iD 0] := by
 have := tCompile_meets (exL 3) (by decide) (ok_ex 3)
 rw [compile_ex3] at this
 exact this
theorem exCompile4 : Meets Tryz.prog 6 [.sl ((exL 4001).map Step.cells)] fun d => d = .tup [treeD exM, iD 0] := by
 have := tCompile_meets (exL 4001) (by decide) (ok_ex 4001)
 rw [compile_ex4] at this
 exact this
theorem exReach : Meets Tryz.prog 11 [treeD exN, iD 0] fun d => d = .tup [(⟨0, 0, 0⟩ : Env).d, bD true, iD 0] := by
 have := tReach_meets exN 0
 rw [reach_ex] at this
 exact this
theorem exEval : Meets Tryz.prog 12 [treeD exN, (⟨0, 4, 0⟩ : Env).d] fun d => d = .tup [.sl ([4].map icells), iD 0] := by
 have := tEval_meets exN ⟨0, 4, 0⟩
 rw [eval_ex] at this
 exact this
theorem exCheck : Meets Tryz.prog 14 [treeD []] fun d => d = iD 100 := by
 have := tCheck_meets []
 rw [check_nil] at this
 exact this
theorem sane_meets : Meets Tryz.prog 4 [] fun r => r = bD true := by
 refine enter tok {} Tryz.func4 rfl (by kernel_rfl) Tryz.ntmps4 (by simp) fun B0 W0 V0 lent g0 => ?_
 ((conv => whnf); repeat' (refine Z rfl ?_; conv => whnf))
 repeat' ((first | (intro hlq; (try simp only [SL] at hlq)) | refine Meets.k (exAt_meets 3) ?_ | refine Meets.k (exAt_meets 4001) ?_ | refine Meets.k (exChoice_meets 3) ?_ | refine Meets.k (exChoice_meets 4001) ?_ | refine Meets.k (exCompile3) ?_ | refine Meets.k (exCompile4) ?_ | refine Meets.k (exReach) ?_ | refine Meets.k (exEval) ?_ | refine Meets.k (exCheck) ?_ | refine Meets.k (rSame_meets exN exN) ?_ | refine Meets.k (rSame_meets exM exM) ?_ | refine Meets.k (tSame_meets exN exN) ?_ | refine Meets.k (tSame_meets exN exM) ?_ | refine Meets.k (Same_meets [4] [4]) ?_ | refine ⟨⟨⟨[0, 0, 0], rfl, rfl⟩, ⟨[0, 0, 0], rfl, rfl⟩⟩, ?_⟩ | refine Ks ?_ | refine Kq ?_ | refine Kt ?_ | ((refine Kh (fun hb => ?_) fun hb => ?_) <;> (try simp only [BL] at hb)) | refine Ka ?_ | refine Kb ?_ | refine Kc (hd := rfl) (e := ?_) | refine Kc (hd := icells_eq _) (e := ?_) | refine Kd (e := ?_) | refine Kl rfl ?_ | fail) <;> ((conv => whnf); repeat' (refine Z rfl ?_; conv => whnf)))
 all_goals first
  | exact ⟨congrArg bD (by decide)⟩
  | (exfalso; revert hb; decide)
end Go.Proofs.YtacclfgmgphljaaGreat.Dx
