/- Numbers of a course. -/
import Derived.Test.YteckbkljaneppaaGreatDoorMw
set_option linter.all false
namespace Go.Proofs.YteckbkljaneppaaGreatDoor.Dx
open Go Go.RowKit
set_option maxRecDepth 100000
set_option maxHeartbeats 8000000
def Course.m (c : Course) : Int := ((c.mats.map Mat.cells).length : Int) - 1
def Course.numsA (c : Course) : Bool := c.mats.all Mat.good && (c.legs.all (Leg.good c.m) && (decide (c.legs.map fun x => (x.src, x.dst)).Nodup && (c.distances.all (Distance.good c.m) && (c.waves.all Wave.good && (c.offences.all Offence.good && (c.categories.all Category.good && (c.prizes.all (Prize.good (c.distances.length - 1) (c.categories.length - 1)) && decide (c.prizes.map fun x => (x.distance, x.category, x.rank)).Nodup)))))))
def Course.numsB (c : Course) : Bool := (inR 0 16 c.faults.misses && inR 0 16 c.faults.strays) && ((inR 0 4294967296 c.faults.window && inR 0 4294967296 c.faults.residual) && (inR 0 100000 c.faults.drift && (inR 0 1125899906842624 c.fee && inR 0 1099511627776 c.deadline)))
def Course.nums (c : Course) : Bool := c.numsA && c.numsB
theorem deep_bound (l : List Distance) : ∃ N, ∀ d ∈ l, Part.deepL d.route < N + 1 := by
 induction l with
 | nil => exact ⟨0, by simp⟩
 | cons d l ih =>
   obtain ⟨N, h⟩ := ih
   refine ⟨N + Part.deepL d.route, fun x hx => ?_⟩
   rcases List.mem_cons.1 hx with rfl | hx
   · omega
   · have := h x hx; omega
theorem numbers_meets (c : Course) (hc : c.small) : Meets Tryz.prog 61 [c.d] fun r => r = bD c.nums := by
 obtain ⟨N, hN⟩ := deep_bound c.distances
 refine enter tok {} Tryz.func61 rfl (by kernel_rfl) Tryz.ntmps61 (by simp) fun B0 W0 V0 lent g0 => ?_
 conv => whnf
 repeat' (first
  | (refine J_frz [3] ?_; (conv => whnf); refine J_cyc 4 (pc c.m) [.junk] N ?_; (conv => whnf); refine ⟨rfl, fun x => rfl, ?_⟩; conv => whnf)
  | (refine Z rfl ?_; conv => whnf)
  | (intro hlq; (try simp only [SL] at hlq); conv => whnf)
  | (refine ⟨fun h1 h2 => i64 (by have := h1.1; have := h1.2; have := h2.1; have := h2.2; omega) (by have := h1.1; have := h1.2; have := h2.1; have := h2.2; omega), ?_⟩; conv => whnf)
  | fail)
 repeat' ((first | (intro hlq; (try simp only [SL] at hlq)) | refine Meets.k (all_mat c.mats 120 [] [] Mat.good fun x _ => matGood_meets x) ?_ | refine Meets.k (all_leg c.legs 116 [] [mp1 c.m] (Leg.good c.m) fun x _ => legGood_meets c.m x) ?_ | refine Meets.k (onceLeg_meets c.legs hc.legs) ?_ | refine Meets.k (all_dist c.distances 114 [] [mp1 c.m, .ptr (iterD (pc c.m) [.junk] (N + 1)) 0, .ptr [.fn 113 [] [mp1 c.m]] 0] (Distance.good c.m) fun x hx => distanceGood_meets c.m x _ _ (hN x hx)) ?_ | refine Meets.k (all_wave c.waves 125 [] [] Wave.good fun x _ => waveGood_meets x) ?_ | refine Meets.k (all_offence c.offences 117 [] [] Offence.good fun x _ => offenceGood_meets x) ?_ | refine Meets.k (all_category c.categories 128 [] [] Category.good fun x _ => categoryGood_meets x) ?_ | refine Meets.k (all_prize c.prizes 118 [] [.ptr c.cells 0] (Prize.good (c.distances.length - 1) (c.categories.length - 1)) fun x _ => prizeGood_meets c x) ?_ | refine Meets.k (oncePrize_meets c.prizes hc.prizes) ?_ | refine Meets.k (within_meets 0 16 [c.faults.misses, c.faults.strays]) ?_ | refine Meets.k (within_meets 0 4294967296 [c.faults.window, c.faults.residual]) ?_ | refine Meets.k (within_meets 0 100000 [c.faults.drift]) ?_ | refine Meets.k (within_meets 0 1125899906842624 [c.fee]) ?_ | refine Meets.k (within_meets 0 1099511627776 [c.deadline]) ?_ | ((refine Kh (fun hb => ?_) fun hb => ?_) <;> (try simp only [BL] at hb)) | refine Ka ?_ | refine Kb ?_ | refine Kc (hd := rfl) (e := ?_) | refine Kc (hd := Cond.cells_eq _) (e := ?_) | refine Kd (e := ?_) | refine Kl rfl ?_ | fail) <;> ((conv => whnf); repeat' (refine Z rfl ?_; conv => whnf)))
 all_goals refine ⟨congrArg bD ?_⟩
 all_goals try simp only [List.all_cons, List.all_nil, Bool.and_true] at *
 all_goals (simp only [Course.nums, Course.numsA, Course.numsB, *]; simp)
end Go.Proofs.YteckbkljaneppaaGreatDoor.Dx
/- Numbers of a course, in the reference. -/
namespace Go.Proofs.YteckbkljaneppaaGreatDoor.Dx
open Go Go.RowKit
set_option maxRecDepth 100000
set_option maxHeartbeats 8000000
theorem in_meets (n lo hi : Int) : Meets Tryz.prog 142 [iD n, iD lo, iD hi] fun r => r = bD (inR lo hi n) := by
 refine enter tok {} Tryz.func142 rfl (by kernel_rfl) Tryz.ntmps142 (by simp) fun B0 W0 V0 lent g0 => ?_
 ((conv => whnf); repeat' (refine Z rfl ?_; conv => whnf))
 repeat' ((first | (intro hlq; (try simp only [SL] at hlq)) | ((refine Kh (fun hb => ?_) fun hb => ?_) <;> (try simp only [BL] at hb)) | refine Ka ?_ | refine Kb ?_ | refine Kc (hd := rfl) (e := ?_) | refine Kc (hd := Cond.cells_eq _) (e := ?_) | refine Kd (e := ?_) | refine Kl rfl ?_ | fail) <;> ((conv => whnf); repeat' (refine Z rfl ?_; conv => whnf)))
 all_goals refine ⟨congrArg bD ?_⟩
 all_goals simp [inR]
 all_goals omega
theorem mat_meets (c : Course) (n : Int) : Meets Tryz.prog 143 [c.d, iD n] fun r => r = bD (inR 0 c.m n) := by
 refine enter tok {} Tryz.func143 rfl (by kernel_rfl) Tryz.ntmps143 (by simp) fun B0 W0 V0 lent g0 => ?_
 ((conv => whnf); repeat' (refine Z rfl ?_; conv => whnf))
 repeat' ((first | (intro hlq; (try simp only [SL] at hlq)) | refine Ka ?_ | refine Kb ?_ | refine Kc (hd := rfl) (e := ?_) | refine Kc (hd := Cond.cells_eq _) (e := ?_) | refine Kd (e := ?_) | refine Kl rfl ?_ | fail) <;> ((conv => whnf); repeat' (refine Z rfl ?_; conv => whnf)))
 refine Meets.k (in_meets n 0 c.m) ?_
 ((conv => whnf); repeat' (refine Z rfl ?_; conv => whnf))
 exact ⟨rfl⟩
theorem partly_meets (c : Course) (l : List Part) : Meets Tryz.prog 184 [c.d, .sl (l.map Part.cells)] fun r => r = bD (l.all (Part.good c.m)) := by
 refine enter tok {} Tryz.func184 rfl (by kernel_rfl) Tryz.ntmps184 (by simp) fun B0 W0 V0 lent g0 => ?_
 ((conv => whnf); repeat' (refine Z rfl ?_; conv => whnf))
 refine loop_upd tok {} [] (X := Nat) (fun i => [(5, iB i)]) (fun _ => []) [6] (fun i => i ≤ l.length ∧ ∀ x ∈ l.take i, Part.good c.m x = true) (fun i => l.length - i) 0 ?_
 ((conv => whnf); repeat' (refine Z rfl ?_; conv => whnf))
 refine And.intro ?_ ⟨⟨by omega, by simp⟩, fun i hΦ => ?_⟩
 · exact Kr
 obtain ⟨hi, hp⟩ := hΦ
 ((conv => whnf); repeat' (refine Z rfl ?_; conv => whnf))
 repeat' ((first | (intro hlq; (try simp only [SL] at hlq)) | refine Ka ?_ | refine Kb ?_ | refine Kc (hd := rfl) (e := ?_) | refine Kc (hd := Cond.cells_eq _) (e := ?_) | refine Kd (e := ?_) | refine Kl rfl ?_ | fail) <;> ((conv => whnf); repeat' (refine Z rfl ?_; conv => whnf)))
 refine ⟨fun h1 => ?_, fun h1 => ?_⟩ <;> (try simp only [BL] at h1) <;> ((conv => whnf); repeat' (refine Z rfl ?_; conv => whnf))
 · have h1' : i < l.length := by omega
   have hg := l[i].good_eq c.m
   have hdec := Part.cnt_part h1'
   have hz : l[i].laps = 0 → inR 1 64 l[i].laps = false := fun e => by rw [e]; rfl
   repeat' ((first | (intro hlq; (try simp only [SL] at hlq)) | refine Meets.k (mat_meets c l[i].mat) ?_ | refine Meets.k (in_meets l[i].laps 1 64) ?_ | refine Meets.k (partly_meets c l[i].parts) ?_ | ((refine Kh (fun hb => ?_) fun hb => ?_) <;> (try simp only [BL] at hb)) | refine Ka ?_ | refine Kb ?_ | refine Kc (hd := rfl) (e := ?_) | refine Kc (hd := Part.cells_eq _) (e := ?_) | refine Kd (e := ?_) | refine Kl rfl ?_ | fail) <;> ((conv => whnf); repeat' (refine Z rfl ?_; conv => whnf)))
   all_goals first
    | (refine ⟨congrArg bD ?_⟩
       have hn : l[i].good c.m = false := by
        clear hp hi hdec h1
        rw [hg]
        generalize l[i].parts.all (Part.good c.m) = B at *
        generalize inR 1 64 l[i].laps = X at *
        generalize inR 0 c.m l[i].mat = Y at *
        simp_all
       rw [all_false (List.getElem_mem h1') hn]
       done)
    | (have hn : l[i].good c.m = true := by
        clear hp hi hdec h1
        rw [hg]
        generalize l[i].parts.all (Part.good c.m) = B at *
        generalize inR 1 64 l[i].laps = X at *
        generalize inR 0 c.m l[i].mat = Y at *
        simp_all
       refine ⟨⟨i + 1, ?_, ⟨by omega, take_snoc h1' hp hn⟩, by omega⟩⟩
       repeat' (first | exact True.intro | exact rfl | refine And.intro ?_ ?_))
 · refine ⟨congrArg bD ?_⟩
   rw [all_true (by omega) hp]
termination_by Part.cntL l
decreasing_by all_goals omega
theorem Course.m_ge (c : Course) : -1 ≤ c.m := by simp only [Course.m]; omega
theorem extra_eq (c : Course) (e : Int) : inR (-1) c.m e = (decide (e = -1) || inR 0 c.m e) := by
 have := c.m_ge
 rw [Bool.eq_iff_iff]
 simp only [inR, Bool.and_eq_true, Bool.or_eq_true, decide_eq_true_eq]
 omega
theorem rdistance_meets (c : Course) (d : Distance) : Meets Tryz.prog 144 [c.d, d.d] fun r => r = bD (d.good c.m) := by
 refine enter tok {} Tryz.func144 rfl (by kernel_rfl) Tryz.ntmps144 (by simp) fun B0 W0 V0 lent g0 => ?_
 ((conv => whnf); repeat' (refine Z rfl ?_; conv => whnf))
 refine loop_upd tok {} [] (X := Nat) (fun i => [(5, iB i)]) (fun _ => []) [6] (fun i => i ≤ d.cutoffs.length ∧ ∀ x ∈ d.cutoffs.take i, Cutoff.good c.m x = true) (fun i => d.cutoffs.length - i) 0 ?_
 ((conv => whnf); repeat' (refine Z rfl ?_; conv => whnf))
 refine And.intro ?_ ⟨⟨by omega, by simp⟩, fun i hΦ => ?_⟩
 · exact Kr
 obtain ⟨hi, hp⟩ := hΦ
 ((conv => whnf); repeat' (refine Z rfl ?_; conv => whnf))
 repeat' ((first | (intro hlq; (try simp only [SL] at hlq)) | refine Ka ?_ | refine Kb ?_ | refine Kc (hd := rfl) (e := ?_) | refine Kc (hd := Cond.cells_eq _) (e := ?_) | refine Kd (e := ?_) | refine Kl rfl ?_ | fail) <;> ((conv => whnf); repeat' (refine Z rfl ?_; conv => whnf)))
 refine ⟨fun h1 => ?_, fun h1 => ?_⟩ <;> (try simp only [BL] at h1) <;> ((conv => whnf); repeat' (refine Z rfl ?_; conv => whnf))
 · have h1' : i < d.cutoffs.length := by omega
   repeat' ((first | (intro hlq; (try simp only [SL] at hlq)) | refine Meets.k (mat_meets c d.cutoffs[i].mat) ?_ | refine Meets.k (in_meets d.cutoffs[i].limit 0 1099511627776) ?_ | ((refine Kh (fun hb => ?_) fun hb => ?_) <;> (try simp only [BL] at hb)) | refine Ka ?_ | refine Kb ?_ | refine Kc (hd := rfl) (e := ?_) | refine Kc (hd := Cutoff.cells_eq _) (e := ?_) | refine Kd (e := ?_) | refine Kl rfl ?_ | fail) <;> ((conv => whnf); repeat' (refine Z rfl ?_; conv => whnf)))
   all_goals first
    | (refine ⟨congrArg bD ?_⟩
       have hn : d.cutoffs[i].good c.m = false := by
        simp only [Cutoff.good, Bool.and_eq_false_iff, decide_eq_false_iff_not, *]; simp; try omega
       rw [Distance.good, all_false (List.getElem_mem h1') hn]
       simp
       done)
    | (refine ⟨⟨i + 1, ?_, ⟨by omega, take_snoc h1' hp ?_⟩, by omega⟩⟩
       · exact Kr
       simp only [Cutoff.good, Bool.and_eq_true, decide_eq_true_eq, *]; simp; try omega)
 · have hcut : d.cutoffs.all (Cutoff.good c.m) = true := all_true (by omega) hp
   repeat' ((first | (intro hlq; (try simp only [SL] at hlq)) | refine Meets.k (in_meets d.timing 1 3) ?_ | refine Meets.k (partly_meets c d.route) ?_ | refine Meets.k (mat_meets c d.extra) ?_ | ((refine Kh (fun hb => ?_) fun hb => ?_) <;> (try simp only [BL] at hb)) | refine Ka ?_ | refine Kb ?_ | refine Kc (hd := rfl) (e := ?_) | refine Kc (hd := Cond.cells_eq _) (e := ?_) | refine Kd (e := ?_) | refine Kl rfl ?_ | fail) <;> ((conv => whnf); repeat' (refine Z rfl ?_; conv => whnf)))
   all_goals (refine ⟨congrArg bD ?_⟩; rw [Distance.good, hcut, extra_eq])
   all_goals (generalize d.route.all (Part.good c.m) = B at *; generalize inR 0 c.m d.extra = X at *; generalize inR 1 3 d.timing = Y at *; clear hcut hp; simp_all)
end Go.Proofs.YteckbkljaneppaaGreatDoor.Dx
