/- Numbers of a course, in the reference: all of them. -/
import Derived.Test.YteckbkljaneppaaGreatDoorMx
set_option linter.all false
namespace Go.Proofs.YteckbkljaneppaaGreatDoor.Dx
open Go Go.RowKit
set_option maxRecDepth 100000
set_option maxHeartbeats 16000000
structure NumsOk (c : Course) : Prop where
 mats : ∀ x ∈ c.mats, x.good = true
 legs : ∀ x ∈ c.legs, x.good c.m = true
 legsN : (c.legs.map fun x => (x.src, x.dst)).Nodup
 distances : ∀ x ∈ c.distances, x.good c.m = true
 waves : ∀ x ∈ c.waves, x.good = true
 offences : ∀ x ∈ c.offences, x.good = true
 categories : ∀ x ∈ c.categories, x.good = true
 prizes : ∀ x ∈ c.prizes, x.good (c.distances.length - 1) (c.categories.length - 1) = true
 prizesN : (c.prizes.map fun x => (x.distance, x.category, x.rank)).Nodup
 rest : c.numsB = true
theorem nums_iff (c : Course) : c.nums = true ↔ NumsOk c := by
 simp only [Course.nums, Course.numsA, Bool.and_eq_true, List.all_eq_true, decide_eq_true_eq]
 constructor
 · rintro ⟨⟨h1, h2, h3, h4, h5, h6, h7, h8, h9⟩, h10⟩
   exact ⟨h1, h2, h3, h4, h5, h6, h7, h8, h9, h10⟩
 · rintro ⟨h1, h2, h3, h4, h5, h6, h7, h8, h9, h10⟩
   exact ⟨⟨h1, h2, h3, h4, h5, h6, h7, h8, h9⟩, h10⟩
theorem nf {c : Course} (h : NumsOk c → False) : Done (bD false = bD c.nums) := by
 refine ⟨congrArg bD (Eq.symm ?_)⟩
 rw [Bool.eq_false_iff]
 exact fun e => h ((nums_iff c).1 e)
theorem off_iff (x : Offence) : x.good = true ↔ (inR 0 68719476736 x.time = true ∧ x.laps = 0 ∧ x.out = false) ∨ (x.time = 0 ∧ inR 1 64 x.laps = true ∧ x.out = false) ∨ (x.time = 0 ∧ x.laps = 0 ∧ x.out = true) := by
 have hz : x.laps = 0 → inR 1 64 x.laps = false := fun e => by rw [e]; rfl
 have hy : x.time = 0 → inR 0 68719476736 x.time = true := fun e => by rw [e]; rfl
 simp only [Offence.good]
 cases x.out <;> by_cases hl : x.laps = 0 <;> by_cases ht : x.time = 0 <;> simp_all
end Go.Proofs.YteckbkljaneppaaGreatDoor.Dx
