/- Chapter 10: the reference's tests of a rule (tests, Tests), Few, the laws' values. -/
import Derived.Test.YtacclfgmgphljaaGreatSk
import Derived.Test.YtacclfgmgphljaaGreatSl
import Derived.Test.YtacclfgmgphljaaGreatSj
set_option linter.all false
namespace Go.Proofs.YtacclfgmgphljaaGreat.Dx
open Go Go.RowKit
set_option maxRecDepth 100000
set_option maxHeartbeats 16000000
theorem rtests_meets (l : List Step) (v : Int) (xs : List Int) (hok : ∀ s ∈ l, s.ok) (hr : Row v xs) :
 Meets Tryz.prog 45 [.sl (l.map Step.cells), iD v, .sl (xs.map icells)] fun d => d = .sl ((vals1 (xs ++ l.flatMap (Step.nums v))).map icells) := by
 have hsz : ∀ s ∈ l, Step.szL s.th < Step.szL l ∧ Step.szL s.el < Step.szL l := by
  intro s hs
  have h1 := szS_mem hs
  have h2 := s.sz_eq
  omega
 have hrow : ∀ i, Row v (vals1 (xs ++ (l.take i).flatMap (Step.nums v))) := fun i => hr.add fun x hx => by
  obtain ⟨c, _, hc⟩ := List.mem_flatMap.1 hx; exact snums_mem c hc
 refine enter tok {} Tryz.func45 rfl (by kernel_rfl) Tryz.ntmps45 (by simp) fun B0 W0 V0 lent g0 => ?_
 ((conv => whnf); repeat' (refine Z rfl ?_; conv => whnf))
 refine loop_upd tok {} [] (X := Nat) (fun i => [(7, iB i), (2, .d (.sl ((vals1 (xs ++ (l.take i).flatMap (Step.nums v))).map icells)))]) (fun _ => []) [] (fun i => i ≤ l.length) (fun i => l.length - i) 0 ?_
 ((conv => whnf); repeat' (refine Z rfl ?_; conv => whnf))
 refine And.intro ?_ ⟨by omega, fun i hi => ?_⟩
 · have hn := vals1_nil hr
   repeat' (first | exact True.intro | exact rfl | refine And.intro ?_ ?_ | (exact congrArg D.sl (by simp [vals1_sorted hr.sorted])) | (exact congrArg (List.map icells) (by simp [vals1_sorted hr.sorted])))
 ((conv => whnf); repeat' (refine Z rfl ?_; conv => whnf))
 repeat' ((first | (intro hlq; (try simp only [SL] at hlq)) | refine Ks ?_ | refine Kq ?_ | refine Kt ?_ | refine Ka ?_ | refine Kb ?_ | refine Kc (hd := rfl) (e := ?_) | refine Kc (hd := icells_eq _) (e := ?_) | refine Kd (e := ?_) | refine Kl rfl ?_ | fail) <;> ((conv => whnf); repeat' (refine Z rfl ?_; conv => whnf)))
 refine ⟨fun h1 => ?_, fun h1 => ?_⟩ <;> (try simp only [BL] at h1) <;> ((conv => whnf); repeat' (refine Z rfl ?_; conv => whnf))
 · have h1' : i < l.length := by omega
   have hmem := List.getElem_mem h1'
   have hszi := hsz _ hmem
   have hoki := Step.ok_iff.1 (hok _ hmem)
   have hc1 := numbers_meets v l[i].cond.kind l[i].cond.var l[i].cond.n l[i].cond.parts _ (by rw [cond_eta]; exact hoki.1) (hrow i)
   have hr1 := (hrow i).add (ys := (⟨l[i].cond.kind, l[i].cond.var, l[i].cond.n, l[i].cond.parts⟩ : Cond).nums v) fun x hx => nums_mem _ hx
   have hc2 := rtests_meets l[i].th v _ hoki.2.1.2 hr1
   have hr2 := hr1.add (ys := l[i].th.flatMap (Step.nums v)) fun x hx => by
    obtain ⟨c, _, hc⟩ := List.mem_flatMap.1 hx; exact snums_mem c hc
   have hc3 := rtests_meets l[i].el v _ hoki.2.2.2 hr2
   have hstep : vals1 (vals1 (vals1 (vals1 (xs ++ (l.take i).flatMap (Step.nums v)) ++ (⟨l[i].cond.kind, l[i].cond.var, l[i].cond.n, l[i].cond.parts⟩ : Cond).nums v) ++ l[i].th.flatMap (Step.nums v)) ++ l[i].el.flatMap (Step.nums v)) = vals1 (xs ++ (l.take (i + 1)).flatMap (Step.nums v)) := by
    rw [vals1_in, List.append_assoc, vals1_in, List.append_assoc, vals1_in, List.take_succ_eq_append_getElem h1', List.flatMap_append, cond_eta]
    simp [snums_eq v l[i]]
   rw [Cond.cells_eq] at hc1
   repeat' ((first | (intro hlq; (try simp only [SL] at hlq)) | refine Meets.k (hc1) ?_ | refine Meets.k (hc2) ?_ | refine Meets.k (hc3) ?_ | refine Ks ?_ | refine Kq ?_ | refine Kt ?_ | ((refine Kh (fun hb => ?_) fun hb => ?_) <;> (try simp only [BL] at hb)) | refine Ka ?_ | refine Kb ?_ | refine Kc (hd := rfl) (e := ?_) | refine Kc (hd := Step.cells_eq _) (e := ?_) | refine Kd (e := ?_) | refine Kl rfl ?_ | fail) <;> ((conv => whnf); repeat' (refine Z rfl ?_; conv => whnf)))
   refine ⟨⟨i + 1, ?_, by omega, by omega⟩⟩
   repeat' (first | exact True.intro | exact rfl | refine And.intro ?_ ?_ | (exact congrArg (fun l => D.sl (List.map icells l)) hstep) | (exact congrArg (fun l => D.sl (List.map icells l)) hstep.symm))
 · rw [List.take_of_length_le (by omega)]
   repeat' ((first | (intro hlq; (try simp only [SL] at hlq)) | refine Ks ?_ | refine Kq ?_ | refine Kt ?_ | refine Ka ?_ | refine Kb ?_ | refine Kc (hd := rfl) (e := ?_) | refine Kc (hd := icells_eq _) (e := ?_) | refine Kd (e := ?_) | refine Kl rfl ?_ | fail) <;> ((conv => whnf); repeat' (refine Z rfl ?_; conv => whnf)))
   exact ⟨rfl⟩
termination_by Step.szL l
decreasing_by all_goals (first | exact hszi.1 | exact hszi.2)
theorem row_zero (v : Int) : Row v [0] := ⟨by simp, fun x hx => by rw [List.mem_singleton.1 hx]; have := most_le v; omega⟩
theorem Tests_meets (l : List Step) (v : Int) (hok : ∀ s ∈ l, s.ok) : Meets Tryz.prog 17 [.sl (l.map Step.cells), iD v] fun d => d = .sl ((valsL l v).map icells) := by
 have ht := rtests_meets l v [0] hok (row_zero v)
 have e : vals1 ([0] ++ l.flatMap (Step.nums v)) = valsL l v := vals1_congr fun x => by simp [or_comm]
 rw [e] at ht
 refine enter tok {} Tryz.func17 rfl (by kernel_rfl) Tryz.ntmps17 (by simp) fun B0 W0 V0 lent g0 => ?_
 ((conv => whnf); repeat' (refine Z rfl ?_; conv => whnf))
 repeat' ((first | (intro hlq; (try simp only [SL] at hlq)) | refine Meets.k (rBounds_meets v) ?_ | refine Meets.k (ht) ?_ | refine Ks ?_ | refine Kq ?_ | refine Kt ?_ | ((refine Kh (fun hb => ?_) fun hb => ?_) <;> (try simp only [BL] at hb)) | refine Ka ?_ | refine Kb ?_ | refine Kc (hd := rfl) (e := ?_) | refine Kc (hd := icells_eq _) (e := ?_) | refine Kd (e := ?_) | refine Kl rfl ?_ | fail) <;> ((conv => whnf); repeat' (refine Z rfl ?_; conv => whnf)))
 exact ⟨rfl⟩
end Go.Proofs.YtacclfgmgphljaaGreat.Dx
/- Chapter 10: Few, the laws' values, TreesMeaning. -/
namespace Go.Proofs.YtacclfgmgphljaaGreat.Dx
open Go Go.RowKit
set_option maxRecDepth 100000
set_option maxHeartbeats 16000000
noncomputable def prodN (l : List Step) : Nat → Nat
 | 0 => 1
 | k + 1 => prodN l k * (valsL l (1 + (k : Int))).length
theorem valsL_row (l : List Step) (v : Int) : Row v (valsL l v) := by
 have h := (row_zero v).add (ys := l.flatMap (Step.nums v)) fun x hx => by
  obtain ⟨c, _, hc⟩ := List.mem_flatMap.1 hx; exact snums_mem c hc
 have e : vals1 ([0] ++ l.flatMap (Step.nums v)) = valsL l v := vals1_congr fun x => by simp [or_comm]
 rwa [e] at h
theorem valsL_small (l : List Step) (v : Int) : (valsL l v).length ≤ 4001 := by
 have := (valsL_row l v).len
 have := most_le v
 omega
theorem prodN_le (l : List Step) : ∀ k, k ≤ 3 → prodN l k ≤ 64048012001
 | 0, _ => by simp [prodN]
 | 1, _ => by have := valsL_small l (1 + ((0 : Nat) : Int)); simp only [prodN]; omega
 | 2, _ => by
   have h1 := valsL_small l (1 + ((0 : Nat) : Int))
   have h2 := valsL_small l (1 + ((1 : Nat) : Int))
   have := Nat.mul_le_mul h1 h2
   simp only [prodN, Nat.one_mul] at *; omega
 | 3, _ => by
   have h1 := valsL_small l (1 + ((0 : Nat) : Int))
   have h2 := valsL_small l (1 + ((1 : Nat) : Int))
   have h3 := valsL_small l (1 + ((2 : Nat) : Int))
   have := Nat.mul_le_mul (Nat.mul_le_mul h1 h2) h3
   simp only [prodN, Nat.one_mul] at *; omega
 | k + 4, h => by omega
theorem prodN_three (l : List Step) : prodN l 3 = (valsL l 1).length * (valsL l 2).length * (valsL l 3).length := by
 simp only [prodN, Nat.one_mul]; rfl
theorem rFew_meets (l : List Step) (hok : ∀ s ∈ l, s.ok) : Meets Tryz.prog 5 [.sl (l.map Step.cells)] fun d => ∃ b, d = bD b ∧ (b = true → (valsL l 1).length * (valsL l 2).length * (valsL l 3).length ≤ 300) := by
 refine enter tok {} Tryz.func5 rfl (by kernel_rfl) Tryz.ntmps5 (by simp) fun B0 W0 V0 lent g0 => ?_
 ((conv => whnf); repeat' (refine Z rfl ?_; conv => whnf))
 refine (Few_meets l).mono fun d hd => ?_
 obtain ⟨b, rfl⟩ := hd
 cases b with
 | false => 
   ((conv => whnf); repeat' (refine Z rfl ?_; conv => whnf))
   repeat' ((first | (intro hlq; (try simp only [SL] at hlq)) | refine Ks ?_ | refine Kq ?_ | refine Kt ?_ | ((refine Kh (fun hb => ?_) fun hb => ?_) <;> (try simp only [BL] at hb)) | refine Ka ?_ | refine Kb ?_ | refine Kc (hd := rfl) (e := ?_) | refine Kc (hd := icells_eq _) (e := ?_) | refine Kd (e := ?_) | refine Kl rfl ?_ | fail) <;> ((conv => whnf); repeat' (refine Z rfl ?_; conv => whnf)))
   all_goals first
    | exact ⟨⟨_, rfl, fun h => by cases h⟩⟩
    | (exfalso; revert hb; simp; done)
 | true =>
   ((conv => whnf); repeat' (refine Z rfl ?_; conv => whnf))
   repeat' ((first | (intro hlq; (try simp only [SL] at hlq)) | refine Ks ?_ | refine Kq ?_ | refine Kt ?_ | ((refine Kh (fun hb => ?_) fun hb => ?_) <;> (try simp only [BL] at hb)) | refine Ka ?_ | refine Kb ?_ | refine Kc (hd := rfl) (e := ?_) | refine Kc (hd := icells_eq _) (e := ?_) | refine Kd (e := ?_) | refine Kl rfl ?_ | fail) <;> ((conv => whnf); repeat' (refine Z rfl ?_; conv => whnf)))
   all_goals try (exfalso; revert hb; simp; done)
   refine loop_upd tok {} [] (X := Nat) (fun i => [(4, iB (1 + (i : Int))), (3, iB (prodN l i : Nat))]) (fun _ => []) [] (fun i => i ≤ 3) (fun i => 3 - i) 0 ?_
   ((conv => whnf); repeat' (refine Z rfl ?_; conv => whnf))
   refine And.intro ?_ ⟨by omega, fun i hi => ?_⟩
   · exact Kr
   ((conv => whnf); repeat' (refine Z rfl ?_; conv => whnf))
   refine ⟨fun h1 => ?_, fun h1 => ?_⟩ <;> (try simp only [BL] at h1) <;> ((conv => whnf); repeat' (refine Z rfl ?_; conv => whnf))
   · have hi3 : i < 3 := by omega
     have ht := Tests_meets l (1 + (i : Int)) hok
     have hpl := prodN_le l (i + 1) (by omega)
     have hmul : ((prodN l i : Nat) : Int) * (((valsL l (1 + (i : Int))).map icells).length : Int) = ((prodN l (i + 1) : Nat) : Int) := by
      rw [List.length_map, prodN, Int.natCast_mul]
     repeat' ((first | (intro hlq; (try simp only [SL] at hlq)) | refine Meets.k (ht) ?_ | refine Ks ?_ | refine Kq ?_ | refine Kt ?_ | ((refine Kh (fun hb => ?_) fun hb => ?_) <;> (try simp only [BL] at hb)) | refine Ka ?_ | refine Kb ?_ | refine Kc (hd := rfl) (e := ?_) | refine Kc (hd := icells_eq _) (e := ?_) | refine Kd (e := ?_) | refine Kl rfl ?_ | fail) <;> ((conv => whnf); repeat' (refine Z rfl ?_; conv => whnf)))
     refine ⟨⟨i + 1, ?_, by omega, by omega⟩⟩
     repeat' (first | exact True.intro | exact rfl | refine And.intro ?_ ?_ | (exact congrArg iD hmul) | (exact congrArg iD hmul.symm) | ((refine congrArg iD ?_; omega)))
   · have hi' : i = 3 := by omega
     subst hi'
     refine ⟨⟨_, rfl, fun h => ?_⟩⟩
     rw [decide_eq_true_eq, prodN_three] at h
     omega
end Go.Proofs.YtacclfgmgphljaaGreat.Dx
