/- slices.ContainsFunc and typing.all, of the other types. -/
import Derived.Test.YteckbkljaneppaaGreatDoorMm
set_option linter.all false
namespace Go.Proofs.YteckbkljaneppaaGreatDoor.Dx
open Go Go.RowKit
set_option maxRecDepth 100000
set_option maxHeartbeats 4000000
theorem index_part (xs : List Part) (F : Nat) (fs cs : List D) (p : Part → Bool) (h : ∀ x ∈ xs, Meets Tryz.prog F (fs ++ ([x.d] ++ cs)) fun r => r = bD (p x)) :
 Meets Tryz.prog 194 [.sl (xs.map Part.cells), .fn F fs cs] fun d => ∃ r : Int, d = iD r ∧ (decide (r ≥ 0)) = xs.any p := by
 refine enter tok {} Tryz.func194 rfl (by kernel_rfl) Tryz.ntmps194 (by simp) fun B0 W0 V0 lent g0 => ?_
 ((conv => whnf); repeat' (refine Z rfl ?_; conv => whnf))
 repeat' ((first | (intro hlq; (try simp only [SL] at hlq)) | refine Ka ?_ | refine Kb ?_ | refine Kc (hd := rfl) (e := ?_) | refine Kc (hd := Cond.cells_eq _) (e := ?_) | refine Kd (e := ?_) | refine Kl rfl ?_ | fail) <;> ((conv => whnf); repeat' (refine Z rfl ?_; conv => whnf)))
 refine loop_upd tok {} [] (X := Nat) (fun i => [(8, iB i)]) (fun _ => []) [] (fun i => i ≤ xs.length ∧ ∀ x ∈ xs.take i, p x = false) (fun i => xs.length - i) 0 ?_
 ((conv => whnf); repeat' (refine Z rfl ?_; conv => whnf))
 refine And.intro ?_ ⟨⟨by omega, by simp⟩, fun i hΦ => ?_⟩
 · exact Kr
 obtain ⟨hi, hp⟩ := hΦ
 ((conv => whnf); repeat' (refine Z rfl ?_; conv => whnf))
 refine ⟨fun h1 => ?_, fun h1 => ?_⟩ <;> (try simp only [BL] at h1) <;> ((conv => whnf); repeat' (refine Z rfl ?_; conv => whnf))
 · have h1' : i < xs.length := by omega
   repeat' ((first | (intro hlq; (try simp only [SL] at hlq)) | refine Ka ?_ | refine Kb ?_ | refine Kc (hd := rfl) (e := ?_) | refine Kc (hd := Part.cells_eq _) (e := ?_) | refine Kd (e := ?_) | refine Kl rfl ?_ | fail) <;> ((conv => whnf); repeat' (refine Z rfl ?_; conv => whnf)))
   refine (h xs[i] (List.getElem_mem h1')).mono fun d hd => ?_
   subst hd
   ((conv => whnf); repeat' (refine Z rfl ?_; conv => whnf))
   refine ⟨fun h2 => ?_, fun h2 => ?_⟩ <;> (try simp only [BL] at h2) <;> ((conv => whnf); repeat' (refine Z rfl ?_; conv => whnf))
   · refine ⟨?_⟩
     exact ⟨_, rfl, by rw [List.any_eq_true.2 ⟨_, List.getElem_mem h1', h2⟩]; simp⟩
   · repeat' ((first | (intro hlq; (try simp only [SL] at hlq)) | refine Ka ?_ | refine Kb ?_ | refine Kc (hd := rfl) (e := ?_) | refine Kc (hd := Cond.cells_eq _) (e := ?_) | refine Kd (e := ?_) | refine Kl rfl ?_ | fail) <;> ((conv => whnf); repeat' (refine Z rfl ?_; conv => whnf)))
     refine ⟨⟨i + 1, ?_, ⟨by omega, take_snoc h1' hp h2⟩, by omega⟩⟩
     repeat' (first | exact True.intro | exact rfl | refine And.intro ?_ ?_)
 · refine ⟨?_⟩
   have : xs.take i = xs := List.take_of_length_le (by omega)
   rw [this] at hp
   exact ⟨_, rfl, by rw [any_take hp]; decide⟩
theorem contains_part (xs : List Part) (F : Nat) (fs cs : List D) (p : Part → Bool) (h : ∀ x ∈ xs, Meets Tryz.prog F (fs ++ ([x.d] ++ cs)) fun r => r = bD (p x)) :
 Meets Tryz.prog 160 [.sl (xs.map Part.cells), .fn F fs cs] fun d => d = bD (xs.any p) := by
 refine enter tok {} Tryz.func160 rfl (by kernel_rfl) Tryz.ntmps160 (by simp) fun B0 W0 V0 lent g0 => ?_
 ((conv => whnf); repeat' (refine Z rfl ?_; conv => whnf))
 refine (index_part xs F fs cs p h).mono fun d hd => ?_
 obtain ⟨r, rfl, hr⟩ := hd
 ((conv => whnf); repeat' (refine Z rfl ?_; conv => whnf))
 refine ⟨?_⟩
 rw [hr]
theorem all_part (xs : List Part) (F : Nat) (fs cs : List D) (p : Part → Bool) (h : ∀ x ∈ xs, Meets Tryz.prog F (fs ++ ([x.d] ++ cs)) fun r => r = bD (p x)) :
 Meets Tryz.prog 112 [.sl (xs.map Part.cells), .fn F fs cs] fun d => d = bD (xs.all p) := by
 refine enter tok {} Tryz.func112 rfl (by kernel_rfl) Tryz.ntmps112 (by simp) fun B0 W0 V0 lent g0 => ?_
 ((conv => whnf); repeat' (refine Z rfl ?_; conv => whnf))
 refine (contains_part xs 161 [] [.ptr [.fn F fs cs] 0] (fun x => !p x) fun x hx => ?_).mono fun d hd => ?_
 · refine enter tok {} Tryz.func161 rfl (by kernel_rfl) Tryz.ntmps161 (by simp) fun B0 W0 V0 lent g0 => ?_
   ((conv => whnf); repeat' (refine Z rfl ?_; conv => whnf))
   refine (h x hx).mono fun d hd => ?_
   subst hd
   ((conv => whnf); repeat' (refine Z rfl ?_; conv => whnf))
   exact ⟨rfl⟩
 subst hd
 ((conv => whnf); repeat' (refine Z rfl ?_; conv => whnf))
 refine ⟨?_⟩
 rw [← List.not_all_eq_any_not, Bool.not_not]
theorem index_cutoff (xs : List Cutoff) (F : Nat) (fs cs : List D) (p : Cutoff → Bool) (h : ∀ x ∈ xs, Meets Tryz.prog F (fs ++ ([x.d] ++ cs)) fun r => r = bD (p x)) :
 Meets Tryz.prog 195 [.sl (xs.map Cutoff.cells), .fn F fs cs] fun d => ∃ r : Int, d = iD r ∧ (decide (r ≥ 0)) = xs.any p := by
 refine enter tok {} Tryz.func195 rfl (by kernel_rfl) Tryz.ntmps195 (by simp) fun B0 W0 V0 lent g0 => ?_
 ((conv => whnf); repeat' (refine Z rfl ?_; conv => whnf))
 repeat' ((first | (intro hlq; (try simp only [SL] at hlq)) | refine Ka ?_ | refine Kb ?_ | refine Kc (hd := rfl) (e := ?_) | refine Kc (hd := Cond.cells_eq _) (e := ?_) | refine Kd (e := ?_) | refine Kl rfl ?_ | fail) <;> ((conv => whnf); repeat' (refine Z rfl ?_; conv => whnf)))
 refine loop_upd tok {} [] (X := Nat) (fun i => [(8, iB i)]) (fun _ => []) [] (fun i => i ≤ xs.length ∧ ∀ x ∈ xs.take i, p x = false) (fun i => xs.length - i) 0 ?_
 ((conv => whnf); repeat' (refine Z rfl ?_; conv => whnf))
 refine And.intro ?_ ⟨⟨by omega, by simp⟩, fun i hΦ => ?_⟩
 · exact Kr
 obtain ⟨hi, hp⟩ := hΦ
 ((conv => whnf); repeat' (refine Z rfl ?_; conv => whnf))
 refine ⟨fun h1 => ?_, fun h1 => ?_⟩ <;> (try simp only [BL] at h1) <;> ((conv => whnf); repeat' (refine Z rfl ?_; conv => whnf))
 · have h1' : i < xs.length := by omega
   repeat' ((first | (intro hlq; (try simp only [SL] at hlq)) | refine Ka ?_ | refine Kb ?_ | refine Kc (hd := rfl) (e := ?_) | refine Kc (hd := Cutoff.cells_eq _) (e := ?_) | refine Kd (e := ?_) | refine Kl rfl ?_ | fail) <;> ((conv => whnf); repeat' (refine Z rfl ?_; conv => whnf)))
   refine (h xs[i] (List.getElem_mem h1')).mono fun d hd => ?_
   subst hd
   ((conv => whnf); repeat' (refine Z rfl ?_; conv => whnf))
   refine ⟨fun h2 => ?_, fun h2 => ?_⟩ <;> (try simp only [BL] at h2) <;> ((conv => whnf); repeat' (refine Z rfl ?_; conv => whnf))
   · refine ⟨?_⟩
     exact ⟨_, rfl, by rw [List.any_eq_true.2 ⟨_, List.getElem_mem h1', h2⟩]; simp⟩
   · repeat' ((first | (intro hlq; (try simp only [SL] at hlq)) | refine Ka ?_ | refine Kb ?_ | refine Kc (hd := rfl) (e := ?_) | refine Kc (hd := Cond.cells_eq _) (e := ?_) | refine Kd (e := ?_) | refine Kl rfl ?_ | fail) <;> ((conv => whnf); repeat' (refine Z rfl ?_; conv => whnf)))
     refine ⟨⟨i + 1, ?_, ⟨by omega, take_snoc h1' hp h2⟩, by omega⟩⟩
     repeat' (first | exact True.intro | exact rfl | refine And.intro ?_ ?_)
 · refine ⟨?_⟩
   have : xs.take i = xs := List.take_of_length_le (by omega)
   rw [this] at hp
   exact ⟨_, rfl, by rw [any_take hp]; decide⟩
theorem contains_cutoff (xs : List Cutoff) (F : Nat) (fs cs : List D) (p : Cutoff → Bool) (h : ∀ x ∈ xs, Meets Tryz.prog F (fs ++ ([x.d] ++ cs)) fun r => r = bD (p x)) :
 Meets Tryz.prog 162 [.sl (xs.map Cutoff.cells), .fn F fs cs] fun d => d = bD (xs.any p) := by
 refine enter tok {} Tryz.func162 rfl (by kernel_rfl) Tryz.ntmps162 (by simp) fun B0 W0 V0 lent g0 => ?_
 ((conv => whnf); repeat' (refine Z rfl ?_; conv => whnf))
 refine (index_cutoff xs F fs cs p h).mono fun d hd => ?_
 obtain ⟨r, rfl, hr⟩ := hd
 ((conv => whnf); repeat' (refine Z rfl ?_; conv => whnf))
 refine ⟨?_⟩
 rw [hr]
theorem all_cutoff (xs : List Cutoff) (F : Nat) (fs cs : List D) (p : Cutoff → Bool) (h : ∀ x ∈ xs, Meets Tryz.prog F (fs ++ ([x.d] ++ cs)) fun r => r = bD (p x)) :
 Meets Tryz.prog 115 [.sl (xs.map Cutoff.cells), .fn F fs cs] fun d => d = bD (xs.all p) := by
 refine enter tok {} Tryz.func115 rfl (by kernel_rfl) Tryz.ntmps115 (by simp) fun B0 W0 V0 lent g0 => ?_
 ((conv => whnf); repeat' (refine Z rfl ?_; conv => whnf))
 refine (contains_cutoff xs 163 [] [.ptr [.fn F fs cs] 0] (fun x => !p x) fun x hx => ?_).mono fun d hd => ?_
 · refine enter tok {} Tryz.func163 rfl (by kernel_rfl) Tryz.ntmps163 (by simp) fun B0 W0 V0 lent g0 => ?_
   ((conv => whnf); repeat' (refine Z rfl ?_; conv => whnf))
   refine (h x hx).mono fun d hd => ?_
   subst hd
   ((conv => whnf); repeat' (refine Z rfl ?_; conv => whnf))
   exact ⟨rfl⟩
 subst hd
 ((conv => whnf); repeat' (refine Z rfl ?_; conv => whnf))
 refine ⟨?_⟩
 rw [← List.not_all_eq_any_not, Bool.not_not]
theorem index_mat (xs : List Mat) (F : Nat) (fs cs : List D) (p : Mat → Bool) (h : ∀ x ∈ xs, Meets Tryz.prog F (fs ++ ([x.d] ++ cs)) fun r => r = bD (p x)) :
 Meets Tryz.prog 196 [.sl (xs.map Mat.cells), .fn F fs cs] fun d => ∃ r : Int, d = iD r ∧ (decide (r ≥ 0)) = xs.any p := by
 refine enter tok {} Tryz.func196 rfl (by kernel_rfl) Tryz.ntmps196 (by simp) fun B0 W0 V0 lent g0 => ?_
 ((conv => whnf); repeat' (refine Z rfl ?_; conv => whnf))
 repeat' ((first | (intro hlq; (try simp only [SL] at hlq)) | refine Ka ?_ | refine Kb ?_ | refine Kc (hd := rfl) (e := ?_) | refine Kc (hd := Cond.cells_eq _) (e := ?_) | refine Kd (e := ?_) | refine Kl rfl ?_ | fail) <;> ((conv => whnf); repeat' (refine Z rfl ?_; conv => whnf)))
 refine loop_upd tok {} [] (X := Nat) (fun i => [(8, iB i)]) (fun _ => []) [] (fun i => i ≤ xs.length ∧ ∀ x ∈ xs.take i, p x = false) (fun i => xs.length - i) 0 ?_
 ((conv => whnf); repeat' (refine Z rfl ?_; conv => whnf))
 refine And.intro ?_ ⟨⟨by omega, by simp⟩, fun i hΦ => ?_⟩
 · exact Kr
 obtain ⟨hi, hp⟩ := hΦ
 ((conv => whnf); repeat' (refine Z rfl ?_; conv => whnf))
 refine ⟨fun h1 => ?_, fun h1 => ?_⟩ <;> (try simp only [BL] at h1) <;> ((conv => whnf); repeat' (refine Z rfl ?_; conv => whnf))
 · have h1' : i < xs.length := by omega
   repeat' ((first | (intro hlq; (try simp only [SL] at hlq)) | refine Ka ?_ | refine Kb ?_ | refine Kc (hd := rfl) (e := ?_) | refine Kc (hd := Mat.cells_eq _) (e := ?_) | refine Kd (e := ?_) | refine Kl rfl ?_ | fail) <;> ((conv => whnf); repeat' (refine Z rfl ?_; conv => whnf)))
   refine (h xs[i] (List.getElem_mem h1')).mono fun d hd => ?_
   subst hd
   ((conv => whnf); repeat' (refine Z rfl ?_; conv => whnf))
   refine ⟨fun h2 => ?_, fun h2 => ?_⟩ <;> (try simp only [BL] at h2) <;> ((conv => whnf); repeat' (refine Z rfl ?_; conv => whnf))
   · refine ⟨?_⟩
     exact ⟨_, rfl, by rw [List.any_eq_true.2 ⟨_, List.getElem_mem h1', h2⟩]; simp⟩
   · repeat' ((first | (intro hlq; (try simp only [SL] at hlq)) | refine Ka ?_ | refine Kb ?_ | refine Kc (hd := rfl) (e := ?_) | refine Kc (hd := Cond.cells_eq _) (e := ?_) | refine Kd (e := ?_) | refine Kl rfl ?_ | fail) <;> ((conv => whnf); repeat' (refine Z rfl ?_; conv => whnf)))
     refine ⟨⟨i + 1, ?_, ⟨by omega, take_snoc h1' hp h2⟩, by omega⟩⟩
     repeat' (first | exact True.intro | exact rfl | refine And.intro ?_ ?_)
 · refine ⟨?_⟩
   have : xs.take i = xs := List.take_of_length_le (by omega)
   rw [this] at hp
   exact ⟨_, rfl, by rw [any_take hp]; decide⟩
theorem contains_mat (xs : List Mat) (F : Nat) (fs cs : List D) (p : Mat → Bool) (h : ∀ x ∈ xs, Meets Tryz.prog F (fs ++ ([x.d] ++ cs)) fun r => r = bD (p x)) :
 Meets Tryz.prog 164 [.sl (xs.map Mat.cells), .fn F fs cs] fun d => d = bD (xs.any p) := by
 refine enter tok {} Tryz.func164 rfl (by kernel_rfl) Tryz.ntmps164 (by simp) fun B0 W0 V0 lent g0 => ?_
 ((conv => whnf); repeat' (refine Z rfl ?_; conv => whnf))
 refine (index_mat xs F fs cs p h).mono fun d hd => ?_
 obtain ⟨r, rfl, hr⟩ := hd
 ((conv => whnf); repeat' (refine Z rfl ?_; conv => whnf))
 refine ⟨?_⟩
 rw [hr]
theorem all_mat (xs : List Mat) (F : Nat) (fs cs : List D) (p : Mat → Bool) (h : ∀ x ∈ xs, Meets Tryz.prog F (fs ++ ([x.d] ++ cs)) fun r => r = bD (p x)) :
 Meets Tryz.prog 119 [.sl (xs.map Mat.cells), .fn F fs cs] fun d => d = bD (xs.all p) := by
 refine enter tok {} Tryz.func119 rfl (by kernel_rfl) Tryz.ntmps119 (by simp) fun B0 W0 V0 lent g0 => ?_
 ((conv => whnf); repeat' (refine Z rfl ?_; conv => whnf))
 refine (contains_mat xs 165 [] [.ptr [.fn F fs cs] 0] (fun x => !p x) fun x hx => ?_).mono fun d hd => ?_
 · refine enter tok {} Tryz.func165 rfl (by kernel_rfl) Tryz.ntmps165 (by simp) fun B0 W0 V0 lent g0 => ?_
   ((conv => whnf); repeat' (refine Z rfl ?_; conv => whnf))
   refine (h x hx).mono fun d hd => ?_
   subst hd
   ((conv => whnf); repeat' (refine Z rfl ?_; conv => whnf))
   exact ⟨rfl⟩
 subst hd
 ((conv => whnf); repeat' (refine Z rfl ?_; conv => whnf))
 refine ⟨?_⟩
 rw [← List.not_all_eq_any_not, Bool.not_not]
theorem index_leg (xs : List Leg) (F : Nat) (fs cs : List D) (p : Leg → Bool) (h : ∀ x ∈ xs, Meets Tryz.prog F (fs ++ ([x.d] ++ cs)) fun r => r = bD (p x)) :
 Meets Tryz.prog 197 [.sl (xs.map Leg.cells), .fn F fs cs] fun d => ∃ r : Int, d = iD r ∧ (decide (r ≥ 0)) = xs.any p := by
 refine enter tok {} Tryz.func197 rfl (by kernel_rfl) Tryz.ntmps197 (by simp) fun B0 W0 V0 lent g0 => ?_
 ((conv => whnf); repeat' (refine Z rfl ?_; conv => whnf))
 repeat' ((first | (intro hlq; (try simp only [SL] at hlq)) | refine Ka ?_ | refine Kb ?_ | refine Kc (hd := rfl) (e := ?_) | refine Kc (hd := Cond.cells_eq _) (e := ?_) | refine Kd (e := ?_) | refine Kl rfl ?_ | fail) <;> ((conv => whnf); repeat' (refine Z rfl ?_; conv => whnf)))
 refine loop_upd tok {} [] (X := Nat) (fun i => [(8, iB i)]) (fun _ => []) [] (fun i => i ≤ xs.length ∧ ∀ x ∈ xs.take i, p x = false) (fun i => xs.length - i) 0 ?_
 ((conv => whnf); repeat' (refine Z rfl ?_; conv => whnf))
 refine And.intro ?_ ⟨⟨by omega, by simp⟩, fun i hΦ => ?_⟩
 · exact Kr
 obtain ⟨hi, hp⟩ := hΦ
 ((conv => whnf); repeat' (refine Z rfl ?_; conv => whnf))
 refine ⟨fun h1 => ?_, fun h1 => ?_⟩ <;> (try simp only [BL] at h1) <;> ((conv => whnf); repeat' (refine Z rfl ?_; conv => whnf))
 · have h1' : i < xs.length := by omega
   repeat' ((first | (intro hlq; (try simp only [SL] at hlq)) | refine Ka ?_ | refine Kb ?_ | refine Kc (hd := rfl) (e := ?_) | refine Kc (hd := Leg.cells_eq _) (e := ?_) | refine Kd (e := ?_) | refine Kl rfl ?_ | fail) <;> ((conv => whnf); repeat' (refine Z rfl ?_; conv => whnf)))
   refine (h xs[i] (List.getElem_mem h1')).mono fun d hd => ?_
   subst hd
   ((conv => whnf); repeat' (refine Z rfl ?_; conv => whnf))
   refine ⟨fun h2 => ?_, fun h2 => ?_⟩ <;> (try simp only [BL] at h2) <;> ((conv => whnf); repeat' (refine Z rfl ?_; conv => whnf))
   · refine ⟨?_⟩
     exact ⟨_, rfl, by rw [List.any_eq_true.2 ⟨_, List.getElem_mem h1', h2⟩]; simp⟩
   · repeat' ((first | (intro hlq; (try simp only [SL] at hlq)) | refine Ka ?_ | refine Kb ?_ | refine Kc (hd := rfl) (e := ?_) | refine Kc (hd := Cond.cells_eq _) (e := ?_) | refine Kd (e := ?_) | refine Kl rfl ?_ | fail) <;> ((conv => whnf); repeat' (refine Z rfl ?_; conv => whnf)))
     refine ⟨⟨i + 1, ?_, ⟨by omega, take_snoc h1' hp h2⟩, by omega⟩⟩
     repeat' (first | exact True.intro | exact rfl | refine And.intro ?_ ?_)
 · refine ⟨?_⟩
   have : xs.take i = xs := List.take_of_length_le (by omega)
   rw [this] at hp
   exact ⟨_, rfl, by rw [any_take hp]; decide⟩
theorem contains_leg (xs : List Leg) (F : Nat) (fs cs : List D) (p : Leg → Bool) (h : ∀ x ∈ xs, Meets Tryz.prog F (fs ++ ([x.d] ++ cs)) fun r => r = bD (p x)) :
 Meets Tryz.prog 166 [.sl (xs.map Leg.cells), .fn F fs cs] fun d => d = bD (xs.any p) := by
 refine enter tok {} Tryz.func166 rfl (by kernel_rfl) Tryz.ntmps166 (by simp) fun B0 W0 V0 lent g0 => ?_
 ((conv => whnf); repeat' (refine Z rfl ?_; conv => whnf))
 refine (index_leg xs F fs cs p h).mono fun d hd => ?_
 obtain ⟨r, rfl, hr⟩ := hd
 ((conv => whnf); repeat' (refine Z rfl ?_; conv => whnf))
 refine ⟨?_⟩
 rw [hr]
theorem all_leg (xs : List Leg) (F : Nat) (fs cs : List D) (p : Leg → Bool) (h : ∀ x ∈ xs, Meets Tryz.prog F (fs ++ ([x.d] ++ cs)) fun r => r = bD (p x)) :
 Meets Tryz.prog 121 [.sl (xs.map Leg.cells), .fn F fs cs] fun d => d = bD (xs.all p) := by
 refine enter tok {} Tryz.func121 rfl (by kernel_rfl) Tryz.ntmps121 (by simp) fun B0 W0 V0 lent g0 => ?_
 ((conv => whnf); repeat' (refine Z rfl ?_; conv => whnf))
 refine (contains_leg xs 167 [] [.ptr [.fn F fs cs] 0] (fun x => !p x) fun x hx => ?_).mono fun d hd => ?_
 · refine enter tok {} Tryz.func167 rfl (by kernel_rfl) Tryz.ntmps167 (by simp) fun B0 W0 V0 lent g0 => ?_
   ((conv => whnf); repeat' (refine Z rfl ?_; conv => whnf))
   refine (h x hx).mono fun d hd => ?_
   subst hd
   ((conv => whnf); repeat' (refine Z rfl ?_; conv => whnf))
   exact ⟨rfl⟩
 subst hd
 ((conv => whnf); repeat' (refine Z rfl ?_; conv => whnf))
 refine ⟨?_⟩
 rw [← List.not_all_eq_any_not, Bool.not_not]
theorem index_wave (xs : List Wave) (F : Nat) (fs cs : List D) (p : Wave → Bool) (h : ∀ x ∈ xs, Meets Tryz.prog F (fs ++ ([x.d] ++ cs)) fun r => r = bD (p x)) :
 Meets Tryz.prog 198 [.sl (xs.map Wave.cells), .fn F fs cs] fun d => ∃ r : Int, d = iD r ∧ (decide (r ≥ 0)) = xs.any p := by
 refine enter tok {} Tryz.func198 rfl (by kernel_rfl) Tryz.ntmps198 (by simp) fun B0 W0 V0 lent g0 => ?_
 ((conv => whnf); repeat' (refine Z rfl ?_; conv => whnf))
 repeat' ((first | (intro hlq; (try simp only [SL] at hlq)) | refine Ka ?_ | refine Kb ?_ | refine Kc (hd := rfl) (e := ?_) | refine Kc (hd := Cond.cells_eq _) (e := ?_) | refine Kd (e := ?_) | refine Kl rfl ?_ | fail) <;> ((conv => whnf); repeat' (refine Z rfl ?_; conv => whnf)))
 refine loop_upd tok {} [] (X := Nat) (fun i => [(8, iB i)]) (fun _ => []) [] (fun i => i ≤ xs.length ∧ ∀ x ∈ xs.take i, p x = false) (fun i => xs.length - i) 0 ?_
 ((conv => whnf); repeat' (refine Z rfl ?_; conv => whnf))
 refine And.intro ?_ ⟨⟨by omega, by simp⟩, fun i hΦ => ?_⟩
 · exact Kr
 obtain ⟨hi, hp⟩ := hΦ
 ((conv => whnf); repeat' (refine Z rfl ?_; conv => whnf))
 refine ⟨fun h1 => ?_, fun h1 => ?_⟩ <;> (try simp only [BL] at h1) <;> ((conv => whnf); repeat' (refine Z rfl ?_; conv => whnf))
 · have h1' : i < xs.length := by omega
   repeat' ((first | (intro hlq; (try simp only [SL] at hlq)) | refine Ka ?_ | refine Kb ?_ | refine Kc (hd := rfl) (e := ?_) | refine Kc (hd := Wave.cells_eq _) (e := ?_) | refine Kd (e := ?_) | refine Kl rfl ?_ | fail) <;> ((conv => whnf); repeat' (refine Z rfl ?_; conv => whnf)))
   refine (h xs[i] (List.getElem_mem h1')).mono fun d hd => ?_
   subst hd
   ((conv => whnf); repeat' (refine Z rfl ?_; conv => whnf))
   refine ⟨fun h2 => ?_, fun h2 => ?_⟩ <;> (try simp only [BL] at h2) <;> ((conv => whnf); repeat' (refine Z rfl ?_; conv => whnf))
   · refine ⟨?_⟩
     exact ⟨_, rfl, by rw [List.any_eq_true.2 ⟨_, List.getElem_mem h1', h2⟩]; simp⟩
   · repeat' ((first | (intro hlq; (try simp only [SL] at hlq)) | refine Ka ?_ | refine Kb ?_ | refine Kc (hd := rfl) (e := ?_) | refine Kc (hd := Cond.cells_eq _) (e := ?_) | refine Kd (e := ?_) | refine Kl rfl ?_ | fail) <;> ((conv => whnf); repeat' (refine Z rfl ?_; conv => whnf)))
     refine ⟨⟨i + 1, ?_, ⟨by omega, take_snoc h1' hp h2⟩, by omega⟩⟩
     repeat' (first | exact True.intro | exact rfl | refine And.intro ?_ ?_)
 · refine ⟨?_⟩
   have : xs.take i = xs := List.take_of_length_le (by omega)
   rw [this] at hp
   exact ⟨_, rfl, by rw [any_take hp]; decide⟩
theorem contains_wave (xs : List Wave) (F : Nat) (fs cs : List D) (p : Wave → Bool) (h : ∀ x ∈ xs, Meets Tryz.prog F (fs ++ ([x.d] ++ cs)) fun r => r = bD (p x)) :
 Meets Tryz.prog 168 [.sl (xs.map Wave.cells), .fn F fs cs] fun d => d = bD (xs.any p) := by
 refine enter tok {} Tryz.func168 rfl (by kernel_rfl) Tryz.ntmps168 (by simp) fun B0 W0 V0 lent g0 => ?_
 ((conv => whnf); repeat' (refine Z rfl ?_; conv => whnf))
 refine (index_wave xs F fs cs p h).mono fun d hd => ?_
 obtain ⟨r, rfl, hr⟩ := hd
 ((conv => whnf); repeat' (refine Z rfl ?_; conv => whnf))
 refine ⟨?_⟩
 rw [hr]
theorem all_wave (xs : List Wave) (F : Nat) (fs cs : List D) (p : Wave → Bool) (h : ∀ x ∈ xs, Meets Tryz.prog F (fs ++ ([x.d] ++ cs)) fun r => r = bD (p x)) :
 Meets Tryz.prog 124 [.sl (xs.map Wave.cells), .fn F fs cs] fun d => d = bD (xs.all p) := by
 refine enter tok {} Tryz.func124 rfl (by kernel_rfl) Tryz.ntmps124 (by simp) fun B0 W0 V0 lent g0 => ?_
 ((conv => whnf); repeat' (refine Z rfl ?_; conv => whnf))
 refine (contains_wave xs 169 [] [.ptr [.fn F fs cs] 0] (fun x => !p x) fun x hx => ?_).mono fun d hd => ?_
 · refine enter tok {} Tryz.func169 rfl (by kernel_rfl) Tryz.ntmps169 (by simp) fun B0 W0 V0 lent g0 => ?_
   ((conv => whnf); repeat' (refine Z rfl ?_; conv => whnf))
   refine (h x hx).mono fun d hd => ?_
   subst hd
   ((conv => whnf); repeat' (refine Z rfl ?_; conv => whnf))
   exact ⟨rfl⟩
 subst hd
 ((conv => whnf); repeat' (refine Z rfl ?_; conv => whnf))
 refine ⟨?_⟩
 rw [← List.not_all_eq_any_not, Bool.not_not]
theorem index_offence (xs : List Offence) (F : Nat) (fs cs : List D) (p : Offence → Bool) (h : ∀ x ∈ xs, Meets Tryz.prog F (fs ++ ([x.d] ++ cs)) fun r => r = bD (p x)) :
 Meets Tryz.prog 199 [.sl (xs.map Offence.cells), .fn F fs cs] fun d => ∃ r : Int, d = iD r ∧ (decide (r ≥ 0)) = xs.any p := by
 refine enter tok {} Tryz.func199 rfl (by kernel_rfl) Tryz.ntmps199 (by simp) fun B0 W0 V0 lent g0 => ?_
 ((conv => whnf); repeat' (refine Z rfl ?_; conv => whnf))
 repeat' ((first | (intro hlq; (try simp only [SL] at hlq)) | refine Ka ?_ | refine Kb ?_ | refine Kc (hd := rfl) (e := ?_) | refine Kc (hd := Cond.cells_eq _) (e := ?_) | refine Kd (e := ?_) | refine Kl rfl ?_ | fail) <;> ((conv => whnf); repeat' (refine Z rfl ?_; conv => whnf)))
 refine loop_upd tok {} [] (X := Nat) (fun i => [(8, iB i)]) (fun _ => []) [] (fun i => i ≤ xs.length ∧ ∀ x ∈ xs.take i, p x = false) (fun i => xs.length - i) 0 ?_
 ((conv => whnf); repeat' (refine Z rfl ?_; conv => whnf))
 refine And.intro ?_ ⟨⟨by omega, by simp⟩, fun i hΦ => ?_⟩
 · exact Kr
 obtain ⟨hi, hp⟩ := hΦ
 ((conv => whnf); repeat' (refine Z rfl ?_; conv => whnf))
 refine ⟨fun h1 => ?_, fun h1 => ?_⟩ <;> (try simp only [BL] at h1) <;> ((conv => whnf); repeat' (refine Z rfl ?_; conv => whnf))
 · have h1' : i < xs.length := by omega
   repeat' ((first | (intro hlq; (try simp only [SL] at hlq)) | refine Ka ?_ | refine Kb ?_ | refine Kc (hd := rfl) (e := ?_) | refine Kc (hd := Offence.cells_eq _) (e := ?_) | refine Kd (e := ?_) | refine Kl rfl ?_ | fail) <;> ((conv => whnf); repeat' (refine Z rfl ?_; conv => whnf)))
   refine (h xs[i] (List.getElem_mem h1')).mono fun d hd => ?_
   subst hd
   ((conv => whnf); repeat' (refine Z rfl ?_; conv => whnf))
   refine ⟨fun h2 => ?_, fun h2 => ?_⟩ <;> (try simp only [BL] at h2) <;> ((conv => whnf); repeat' (refine Z rfl ?_; conv => whnf))
   · refine ⟨?_⟩
     exact ⟨_, rfl, by rw [List.any_eq_true.2 ⟨_, List.getElem_mem h1', h2⟩]; simp⟩
   · repeat' ((first | (intro hlq; (try simp only [SL] at hlq)) | refine Ka ?_ | refine Kb ?_ | refine Kc (hd := rfl) (e := ?_) | refine Kc (hd := Cond.cells_eq _) (e := ?_) | refine Kd (e := ?_) | refine Kl rfl ?_ | fail) <;> ((conv => whnf); repeat' (refine Z rfl ?_; conv => whnf)))
     refine ⟨⟨i + 1, ?_, ⟨by omega, take_snoc h1' hp h2⟩, by omega⟩⟩
     repeat' (first | exact True.intro | exact rfl | refine And.intro ?_ ?_)
 · refine ⟨?_⟩
   have : xs.take i = xs := List.take_of_length_le (by omega)
   rw [this] at hp
   exact ⟨_, rfl, by rw [any_take hp]; decide⟩
theorem contains_offence (xs : List Offence) (F : Nat) (fs cs : List D) (p : Offence → Bool) (h : ∀ x ∈ xs, Meets Tryz.prog F (fs ++ ([x.d] ++ cs)) fun r => r = bD (p x)) :
 Meets Tryz.prog 170 [.sl (xs.map Offence.cells), .fn F fs cs] fun d => d = bD (xs.any p) := by
 refine enter tok {} Tryz.func170 rfl (by kernel_rfl) Tryz.ntmps170 (by simp) fun B0 W0 V0 lent g0 => ?_
 ((conv => whnf); repeat' (refine Z rfl ?_; conv => whnf))
 refine (index_offence xs F fs cs p h).mono fun d hd => ?_
 obtain ⟨r, rfl, hr⟩ := hd
 ((conv => whnf); repeat' (refine Z rfl ?_; conv => whnf))
 refine ⟨?_⟩
 rw [hr]
theorem all_offence (xs : List Offence) (F : Nat) (fs cs : List D) (p : Offence → Bool) (h : ∀ x ∈ xs, Meets Tryz.prog F (fs ++ ([x.d] ++ cs)) fun r => r = bD (p x)) :
 Meets Tryz.prog 126 [.sl (xs.map Offence.cells), .fn F fs cs] fun d => d = bD (xs.all p) := by
 refine enter tok {} Tryz.func126 rfl (by kernel_rfl) Tryz.ntmps126 (by simp) fun B0 W0 V0 lent g0 => ?_
 ((conv => whnf); repeat' (refine Z rfl ?_; conv => whnf))
 refine (contains_offence xs 171 [] [.ptr [.fn F fs cs] 0] (fun x => !p x) fun x hx => ?_).mono fun d hd => ?_
 · refine enter tok {} Tryz.func171 rfl (by kernel_rfl) Tryz.ntmps171 (by simp) fun B0 W0 V0 lent g0 => ?_
   ((conv => whnf); repeat' (refine Z rfl ?_; conv => whnf))
   refine (h x hx).mono fun d hd => ?_
   subst hd
   ((conv => whnf); repeat' (refine Z rfl ?_; conv => whnf))
   exact ⟨rfl⟩
 subst hd
 ((conv => whnf); repeat' (refine Z rfl ?_; conv => whnf))
 refine ⟨?_⟩
 rw [← List.not_all_eq_any_not, Bool.not_not]
theorem index_category (xs : List Category) (F : Nat) (fs cs : List D) (p : Category → Bool) (h : ∀ x ∈ xs, Meets Tryz.prog F (fs ++ ([x.d] ++ cs)) fun r => r = bD (p x)) :
 Meets Tryz.prog 200 [.sl (xs.map Category.cells), .fn F fs cs] fun d => ∃ r : Int, d = iD r ∧ (decide (r ≥ 0)) = xs.any p := by
 refine enter tok {} Tryz.func200 rfl (by kernel_rfl) Tryz.ntmps200 (by simp) fun B0 W0 V0 lent g0 => ?_
 ((conv => whnf); repeat' (refine Z rfl ?_; conv => whnf))
 repeat' ((first | (intro hlq; (try simp only [SL] at hlq)) | refine Ka ?_ | refine Kb ?_ | refine Kc (hd := rfl) (e := ?_) | refine Kc (hd := Cond.cells_eq _) (e := ?_) | refine Kd (e := ?_) | refine Kl rfl ?_ | fail) <;> ((conv => whnf); repeat' (refine Z rfl ?_; conv => whnf)))
 refine loop_upd tok {} [] (X := Nat) (fun i => [(8, iB i)]) (fun _ => []) [] (fun i => i ≤ xs.length ∧ ∀ x ∈ xs.take i, p x = false) (fun i => xs.length - i) 0 ?_
 ((conv => whnf); repeat' (refine Z rfl ?_; conv => whnf))
 refine And.intro ?_ ⟨⟨by omega, by simp⟩, fun i hΦ => ?_⟩
 · exact Kr
 obtain ⟨hi, hp⟩ := hΦ
 ((conv => whnf); repeat' (refine Z rfl ?_; conv => whnf))
 refine ⟨fun h1 => ?_, fun h1 => ?_⟩ <;> (try simp only [BL] at h1) <;> ((conv => whnf); repeat' (refine Z rfl ?_; conv => whnf))
 · have h1' : i < xs.length := by omega
   repeat' ((first | (intro hlq; (try simp only [SL] at hlq)) | refine Ka ?_ | refine Kb ?_ | refine Kc (hd := rfl) (e := ?_) | refine Kc (hd := Category.cells_eq _) (e := ?_) | refine Kd (e := ?_) | refine Kl rfl ?_ | fail) <;> ((conv => whnf); repeat' (refine Z rfl ?_; conv => whnf)))
   refine (h xs[i] (List.getElem_mem h1')).mono fun d hd => ?_
   subst hd
   ((conv => whnf); repeat' (refine Z rfl ?_; conv => whnf))
   refine ⟨fun h2 => ?_, fun h2 => ?_⟩ <;> (try simp only [BL] at h2) <;> ((conv => whnf); repeat' (refine Z rfl ?_; conv => whnf))
   · refine ⟨?_⟩
     exact ⟨_, rfl, by rw [List.any_eq_true.2 ⟨_, List.getElem_mem h1', h2⟩]; simp⟩
   · repeat' ((first | (intro hlq; (try simp only [SL] at hlq)) | refine Ka ?_ | refine Kb ?_ | refine Kc (hd := rfl) (e := ?_) | refine Kc (hd := Cond.cells_eq _) (e := ?_) | refine Kd (e := ?_) | refine Kl rfl ?_ | fail) <;> ((conv => whnf); repeat' (refine Z rfl ?_; conv => whnf)))
     refine ⟨⟨i + 1, ?_, ⟨by omega, take_snoc h1' hp h2⟩, by omega⟩⟩
     repeat' (first | exact True.intro | exact rfl | refine And.intro ?_ ?_)
 · refine ⟨?_⟩
   have : xs.take i = xs := List.take_of_length_le (by omega)
   rw [this] at hp
   exact ⟨_, rfl, by rw [any_take hp]; decide⟩
theorem contains_category (xs : List Category) (F : Nat) (fs cs : List D) (p : Category → Bool) (h : ∀ x ∈ xs, Meets Tryz.prog F (fs ++ ([x.d] ++ cs)) fun r => r = bD (p x)) :
 Meets Tryz.prog 172 [.sl (xs.map Category.cells), .fn F fs cs] fun d => d = bD (xs.any p) := by
 refine enter tok {} Tryz.func172 rfl (by kernel_rfl) Tryz.ntmps172 (by simp) fun B0 W0 V0 lent g0 => ?_
 ((conv => whnf); repeat' (refine Z rfl ?_; conv => whnf))
 refine (index_category xs F fs cs p h).mono fun d hd => ?_
 obtain ⟨r, rfl, hr⟩ := hd
 ((conv => whnf); repeat' (refine Z rfl ?_; conv => whnf))
 refine ⟨?_⟩
 rw [hr]
theorem all_category (xs : List Category) (F : Nat) (fs cs : List D) (p : Category → Bool) (h : ∀ x ∈ xs, Meets Tryz.prog F (fs ++ ([x.d] ++ cs)) fun r => r = bD (p x)) :
 Meets Tryz.prog 127 [.sl (xs.map Category.cells), .fn F fs cs] fun d => d = bD (xs.all p) := by
 refine enter tok {} Tryz.func127 rfl (by kernel_rfl) Tryz.ntmps127 (by simp) fun B0 W0 V0 lent g0 => ?_
 ((conv => whnf); repeat' (refine Z rfl ?_; conv => whnf))
 refine (contains_category xs 173 [] [.ptr [.fn F fs cs] 0] (fun x => !p x) fun x hx => ?_).mono fun d hd => ?_
 · refine enter tok {} Tryz.func173 rfl (by kernel_rfl) Tryz.ntmps173 (by simp) fun B0 W0 V0 lent g0 => ?_
   ((conv => whnf); repeat' (refine Z rfl ?_; conv => whnf))
   refine (h x hx).mono fun d hd => ?_
   subst hd
   ((conv => whnf); repeat' (refine Z rfl ?_; conv => whnf))
   exact ⟨rfl⟩
 subst hd
 ((conv => whnf); repeat' (refine Z rfl ?_; conv => whnf))
 refine ⟨?_⟩
 rw [← List.not_all_eq_any_not, Bool.not_not]
theorem index_prize (xs : List Prize) (F : Nat) (fs cs : List D) (p : Prize → Bool) (h : ∀ x ∈ xs, Meets Tryz.prog F (fs ++ ([x.d] ++ cs)) fun r => r = bD (p x)) :
 Meets Tryz.prog 201 [.sl (xs.map Prize.cells), .fn F fs cs] fun d => ∃ r : Int, d = iD r ∧ (decide (r ≥ 0)) = xs.any p := by
 refine enter tok {} Tryz.func201 rfl (by kernel_rfl) Tryz.ntmps201 (by simp) fun B0 W0 V0 lent g0 => ?_
 ((conv => whnf); repeat' (refine Z rfl ?_; conv => whnf))
 repeat' ((first | (intro hlq; (try simp only [SL] at hlq)) | refine Ka ?_ | refine Kb ?_ | refine Kc (hd := rfl) (e := ?_) | refine Kc (hd := Cond.cells_eq _) (e := ?_) | refine Kd (e := ?_) | refine Kl rfl ?_ | fail) <;> ((conv => whnf); repeat' (refine Z rfl ?_; conv => whnf)))
 refine loop_upd tok {} [] (X := Nat) (fun i => [(8, iB i)]) (fun _ => []) [] (fun i => i ≤ xs.length ∧ ∀ x ∈ xs.take i, p x = false) (fun i => xs.length - i) 0 ?_
 ((conv => whnf); repeat' (refine Z rfl ?_; conv => whnf))
 refine And.intro ?_ ⟨⟨by omega, by simp⟩, fun i hΦ => ?_⟩
 · exact Kr
 obtain ⟨hi, hp⟩ := hΦ
 ((conv => whnf); repeat' (refine Z rfl ?_; conv => whnf))
 refine ⟨fun h1 => ?_, fun h1 => ?_⟩ <;> (try simp only [BL] at h1) <;> ((conv => whnf); repeat' (refine Z rfl ?_; conv => whnf))
 · have h1' : i < xs.length := by omega
   repeat' ((first | (intro hlq; (try simp only [SL] at hlq)) | refine Ka ?_ | refine Kb ?_ | refine Kc (hd := rfl) (e := ?_) | refine Kc (hd := Prize.cells_eq _) (e := ?_) | refine Kd (e := ?_) | refine Kl rfl ?_ | fail) <;> ((conv => whnf); repeat' (refine Z rfl ?_; conv => whnf)))
   refine (h xs[i] (List.getElem_mem h1')).mono fun d hd => ?_
   subst hd
   ((conv => whnf); repeat' (refine Z rfl ?_; conv => whnf))
   refine ⟨fun h2 => ?_, fun h2 => ?_⟩ <;> (try simp only [BL] at h2) <;> ((conv => whnf); repeat' (refine Z rfl ?_; conv => whnf))
   · refine ⟨?_⟩
     exact ⟨_, rfl, by rw [List.any_eq_true.2 ⟨_, List.getElem_mem h1', h2⟩]; simp⟩
   · repeat' ((first | (intro hlq; (try simp only [SL] at hlq)) | refine Ka ?_ | refine Kb ?_ | refine Kc (hd := rfl) (e := ?_) | refine Kc (hd := Cond.cells_eq _) (e := ?_) | refine Kd (e := ?_) | refine Kl rfl ?_ | fail) <;> ((conv => whnf); repeat' (refine Z rfl ?_; conv => whnf)))
     refine ⟨⟨i + 1, ?_, ⟨by omega, take_snoc h1' hp h2⟩, by omega⟩⟩
     repeat' (first | exact True.intro | exact rfl | refine And.intro ?_ ?_)
 · refine ⟨?_⟩
   have : xs.take i = xs := List.take_of_length_le (by omega)
   rw [this] at hp
   exact ⟨_, rfl, by rw [any_take hp]; decide⟩
theorem contains_prize (xs : List Prize) (F : Nat) (fs cs : List D) (p : Prize → Bool) (h : ∀ x ∈ xs, Meets Tryz.prog F (fs ++ ([x.d] ++ cs)) fun r => r = bD (p x)) :
 Meets Tryz.prog 174 [.sl (xs.map Prize.cells), .fn F fs cs] fun d => d = bD (xs.any p) := by
 refine enter tok {} Tryz.func174 rfl (by kernel_rfl) Tryz.ntmps174 (by simp) fun B0 W0 V0 lent g0 => ?_
 ((conv => whnf); repeat' (refine Z rfl ?_; conv => whnf))
 refine (index_prize xs F fs cs p h).mono fun d hd => ?_
 obtain ⟨r, rfl, hr⟩ := hd
 ((conv => whnf); repeat' (refine Z rfl ?_; conv => whnf))
 refine ⟨?_⟩
 rw [hr]
theorem all_prize (xs : List Prize) (F : Nat) (fs cs : List D) (p : Prize → Bool) (h : ∀ x ∈ xs, Meets Tryz.prog F (fs ++ ([x.d] ++ cs)) fun r => r = bD (p x)) :
 Meets Tryz.prog 129 [.sl (xs.map Prize.cells), .fn F fs cs] fun d => d = bD (xs.all p) := by
 refine enter tok {} Tryz.func129 rfl (by kernel_rfl) Tryz.ntmps129 (by simp) fun B0 W0 V0 lent g0 => ?_
 ((conv => whnf); repeat' (refine Z rfl ?_; conv => whnf))
 refine (contains_prize xs 175 [] [.ptr [.fn F fs cs] 0] (fun x => !p x) fun x hx => ?_).mono fun d hd => ?_
 · refine enter tok {} Tryz.func175 rfl (by kernel_rfl) Tryz.ntmps175 (by simp) fun B0 W0 V0 lent g0 => ?_
   ((conv => whnf); repeat' (refine Z rfl ?_; conv => whnf))
   refine (h x hx).mono fun d hd => ?_
   subst hd
   ((conv => whnf); repeat' (refine Z rfl ?_; conv => whnf))
   exact ⟨rfl⟩
 subst hd
 ((conv => whnf); repeat' (refine Z rfl ?_; conv => whnf))
 refine ⟨?_⟩
 rw [← List.not_all_eq_any_not, Bool.not_not]
end Go.Proofs.YteckbkljaneppaaGreatDoor.Dx
