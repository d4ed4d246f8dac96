/- slices.ContainsFunc and typing.all, of the other types. -/
import Derived.Test.YtkkohadkpogdfaaGreatMm
namespace Go.Proofs.YtkkohadkpogdfaaGreat.Dx
open Go Go.RowKit
set_option linter.all false
set_option maxRecDepth 100000
set_option maxHeartbeats 4000000

theorem index_part (xs : List Part) (F : Nat) (fs cs : List D) (p : Part → Bool) (h : ∀ x ∈ xs, Meets Tryz.prog F (fs ++ ([x.d] ++ cs)) fun r => r = bD (p x)) :
    Meets Tryz.prog 144 [.sl (xs.map Part.cells), .fn F fs cs] fun d => ∃ r : Int, d = iD r ∧ (decide (r ≥ 0)) = xs.any p := by
  refine enter tok {} Tryz.func144 rfl (by kernel_rfl) Tryz.ntmps144 (by simp) fun B0 W0 V0 lent g0 => ?_
  ((conv => whnf); repeat' (refine vcC_go tok {} rfl ?_; conv => whnf))
  repeat' ((first | (intro hlq; (try simp only [List.length_map, maxLen] at hlq)) | refine Ka ?_ | refine Kb ?_ | refine Kc (hd := rfl) (e := ?_) | refine Kc (hd := Cond.cells_eq _) (e := ?_) | refine Kd (e := ?_) | refine ⟨(rfl : look _ _ = look _ _), ?_⟩ | fail) <;> ((conv => whnf); repeat' (refine vcC_go tok {} rfl ?_; conv => whnf)))
  refine loop_upd tok {} [] (X := Nat) (fun i => [(8, iB i)]) (fun _ => []) [] (fun i => i ≤ xs.length ∧ ∀ x ∈ xs.take i, p x = false) (fun i => xs.length - i) 0 ?_
  ((conv => whnf); repeat' (refine vcC_go tok {} rfl ?_; conv => whnf))
  refine And.intro ?_ ⟨⟨by omega, by simp⟩, fun i hΦ => ?_⟩
  · repeat' (first | exact True.intro | exact rfl | refine And.intro ?_ ?_)
  obtain ⟨hi, hp⟩ := hΦ
  ((conv => whnf); repeat' (refine vcC_go tok {} rfl ?_; conv => whnf))
  refine ⟨fun h1 => ?_, fun h1 => ?_⟩ <;> (try simp only [BB, List.length_map] at h1) <;> ((conv => whnf); repeat' (refine vcC_go tok {} rfl ?_; conv => whnf))
  · have h1' : i < xs.length := by omega
    repeat' ((first | (intro hlq; (try simp only [List.length_map, maxLen] at hlq)) | refine Ka ?_ | refine Kb ?_ | refine Kc (hd := rfl) (e := ?_) | refine Kc (hd := Part.cells_eq _) (e := ?_) | refine Kd (e := ?_) | refine ⟨(rfl : look _ _ = look _ _), ?_⟩ | fail) <;> ((conv => whnf); repeat' (refine vcC_go tok {} rfl ?_; conv => whnf)))
    refine (h xs[i] (List.getElem_mem h1')).mono fun d hd => ?_
    subst hd
    ((conv => whnf); repeat' (refine vcC_go tok {} rfl ?_; conv => whnf))
    refine ⟨fun h2 => ?_, fun h2 => ?_⟩ <;> (try simp only [BB, List.length_map] at h2) <;> ((conv => whnf); repeat' (refine vcC_go tok {} rfl ?_; conv => whnf))
    · refine ⟨?_⟩
      exact ⟨_, rfl, by rw [List.any_eq_true.2 ⟨_, List.getElem_mem h1', h2⟩]; simp⟩
    · repeat' ((first | (intro hlq; (try simp only [List.length_map, maxLen] at hlq)) | refine Ka ?_ | refine Kb ?_ | refine Kc (hd := rfl) (e := ?_) | refine Kc (hd := Cond.cells_eq _) (e := ?_) | refine Kd (e := ?_) | refine ⟨(rfl : look _ _ = look _ _), ?_⟩ | fail) <;> ((conv => whnf); repeat' (refine vcC_go tok {} rfl ?_; conv => whnf)))
      refine ⟨⟨i + 1, ?_, ⟨by omega, take_snoc h1' hp h2⟩, by omega⟩⟩
      repeat' (first | exact True.intro | exact rfl | refine And.intro ?_ ?_)
  · refine ⟨?_⟩
    have : xs.take i = xs := List.take_of_length_le (by omega)
    rw [this] at hp
    exact ⟨_, rfl, by rw [any_take hp]; decide⟩

theorem contains_part (xs : List Part) (F : Nat) (fs cs : List D) (p : Part → Bool) (h : ∀ x ∈ xs, Meets Tryz.prog F (fs ++ ([x.d] ++ cs)) fun r => r = bD (p x)) :
    Meets Tryz.prog 113 [.sl (xs.map Part.cells), .fn F fs cs] fun d => d = bD (xs.any p) := by
  refine enter tok {} Tryz.func113 rfl (by kernel_rfl) Tryz.ntmps113 (by simp) fun B0 W0 V0 lent g0 => ?_
  ((conv => whnf); repeat' (refine vcC_go tok {} rfl ?_; conv => whnf))
  refine (index_part xs F fs cs p h).mono fun d hd => ?_
  obtain ⟨r, rfl, hr⟩ := hd
  ((conv => whnf); repeat' (refine vcC_go tok {} rfl ?_; conv => whnf))
  refine ⟨?_⟩
  rw [hr]


theorem all_part (xs : List Part) (F : Nat) (fs cs : List D) (p : Part → Bool) (h : ∀ x ∈ xs, Meets Tryz.prog F (fs ++ ([x.d] ++ cs)) fun r => r = bD (p x)) :
    Meets Tryz.prog 69 [.sl (xs.map Part.cells), .fn F fs cs] fun d => d = bD (xs.all p) := by
  refine enter tok {} Tryz.func69 rfl (by kernel_rfl) Tryz.ntmps69 (by simp) fun B0 W0 V0 lent g0 => ?_
  ((conv => whnf); repeat' (refine vcC_go tok {} rfl ?_; conv => whnf))
  refine (contains_part xs 114 [] [.ptr [.fn F fs cs] 0] (fun x => !p x) fun x hx => ?_).mono fun d hd => ?_
  · refine enter tok {} Tryz.func114 rfl (by kernel_rfl) Tryz.ntmps114 (by simp) fun B0 W0 V0 lent g0 => ?_
    ((conv => whnf); repeat' (refine vcC_go tok {} rfl ?_; conv => whnf))
    refine (h x hx).mono fun d hd => ?_
    subst hd
    ((conv => whnf); repeat' (refine vcC_go tok {} rfl ?_; conv => whnf))
    exact ⟨rfl⟩
  subst hd
  ((conv => whnf); repeat' (refine vcC_go tok {} rfl ?_; conv => whnf))
  refine ⟨?_⟩
  rw [← List.not_all_eq_any_not, Bool.not_not]

theorem index_cutoff (xs : List Cutoff) (F : Nat) (fs cs : List D) (p : Cutoff → Bool) (h : ∀ x ∈ xs, Meets Tryz.prog F (fs ++ ([x.d] ++ cs)) fun r => r = bD (p x)) :
    Meets Tryz.prog 145 [.sl (xs.map Cutoff.cells), .fn F fs cs] fun d => ∃ r : Int, d = iD r ∧ (decide (r ≥ 0)) = xs.any p := by
  refine enter tok {} Tryz.func145 rfl (by kernel_rfl) Tryz.ntmps145 (by simp) fun B0 W0 V0 lent g0 => ?_
  ((conv => whnf); repeat' (refine vcC_go tok {} rfl ?_; conv => whnf))
  repeat' ((first | (intro hlq; (try simp only [List.length_map, maxLen] at hlq)) | refine Ka ?_ | refine Kb ?_ | refine Kc (hd := rfl) (e := ?_) | refine Kc (hd := Cond.cells_eq _) (e := ?_) | refine Kd (e := ?_) | refine ⟨(rfl : look _ _ = look _ _), ?_⟩ | fail) <;> ((conv => whnf); repeat' (refine vcC_go tok {} rfl ?_; conv => whnf)))
  refine loop_upd tok {} [] (X := Nat) (fun i => [(8, iB i)]) (fun _ => []) [] (fun i => i ≤ xs.length ∧ ∀ x ∈ xs.take i, p x = false) (fun i => xs.length - i) 0 ?_
  ((conv => whnf); repeat' (refine vcC_go tok {} rfl ?_; conv => whnf))
  refine And.intro ?_ ⟨⟨by omega, by simp⟩, fun i hΦ => ?_⟩
  · repeat' (first | exact True.intro | exact rfl | refine And.intro ?_ ?_)
  obtain ⟨hi, hp⟩ := hΦ
  ((conv => whnf); repeat' (refine vcC_go tok {} rfl ?_; conv => whnf))
  refine ⟨fun h1 => ?_, fun h1 => ?_⟩ <;> (try simp only [BB, List.length_map] at h1) <;> ((conv => whnf); repeat' (refine vcC_go tok {} rfl ?_; conv => whnf))
  · have h1' : i < xs.length := by omega
    repeat' ((first | (intro hlq; (try simp only [List.length_map, maxLen] at hlq)) | refine Ka ?_ | refine Kb ?_ | refine Kc (hd := rfl) (e := ?_) | refine Kc (hd := Cutoff.cells_eq _) (e := ?_) | refine Kd (e := ?_) | refine ⟨(rfl : look _ _ = look _ _), ?_⟩ | fail) <;> ((conv => whnf); repeat' (refine vcC_go tok {} rfl ?_; conv => whnf)))
    refine (h xs[i] (List.getElem_mem h1')).mono fun d hd => ?_
    subst hd
    ((conv => whnf); repeat' (refine vcC_go tok {} rfl ?_; conv => whnf))
    refine ⟨fun h2 => ?_, fun h2 => ?_⟩ <;> (try simp only [BB, List.length_map] at h2) <;> ((conv => whnf); repeat' (refine vcC_go tok {} rfl ?_; conv => whnf))
    · refine ⟨?_⟩
      exact ⟨_, rfl, by rw [List.any_eq_true.2 ⟨_, List.getElem_mem h1', h2⟩]; simp⟩
    · repeat' ((first | (intro hlq; (try simp only [List.length_map, maxLen] at hlq)) | refine Ka ?_ | refine Kb ?_ | refine Kc (hd := rfl) (e := ?_) | refine Kc (hd := Cond.cells_eq _) (e := ?_) | refine Kd (e := ?_) | refine ⟨(rfl : look _ _ = look _ _), ?_⟩ | fail) <;> ((conv => whnf); repeat' (refine vcC_go tok {} rfl ?_; conv => whnf)))
      refine ⟨⟨i + 1, ?_, ⟨by omega, take_snoc h1' hp h2⟩, by omega⟩⟩
      repeat' (first | exact True.intro | exact rfl | refine And.intro ?_ ?_)
  · refine ⟨?_⟩
    have : xs.take i = xs := List.take_of_length_le (by omega)
    rw [this] at hp
    exact ⟨_, rfl, by rw [any_take hp]; decide⟩

theorem contains_cutoff (xs : List Cutoff) (F : Nat) (fs cs : List D) (p : Cutoff → Bool) (h : ∀ x ∈ xs, Meets Tryz.prog F (fs ++ ([x.d] ++ cs)) fun r => r = bD (p x)) :
    Meets Tryz.prog 115 [.sl (xs.map Cutoff.cells), .fn F fs cs] fun d => d = bD (xs.any p) := by
  refine enter tok {} Tryz.func115 rfl (by kernel_rfl) Tryz.ntmps115 (by simp) fun B0 W0 V0 lent g0 => ?_
  ((conv => whnf); repeat' (refine vcC_go tok {} rfl ?_; conv => whnf))
  refine (index_cutoff xs F fs cs p h).mono fun d hd => ?_
  obtain ⟨r, rfl, hr⟩ := hd
  ((conv => whnf); repeat' (refine vcC_go tok {} rfl ?_; conv => whnf))
  refine ⟨?_⟩
  rw [hr]


theorem all_cutoff (xs : List Cutoff) (F : Nat) (fs cs : List D) (p : Cutoff → Bool) (h : ∀ x ∈ xs, Meets Tryz.prog F (fs ++ ([x.d] ++ cs)) fun r => r = bD (p x)) :
    Meets Tryz.prog 72 [.sl (xs.map Cutoff.cells), .fn F fs cs] fun d => d = bD (xs.all p) := by
  refine enter tok {} Tryz.func72 rfl (by kernel_rfl) Tryz.ntmps72 (by simp) fun B0 W0 V0 lent g0 => ?_
  ((conv => whnf); repeat' (refine vcC_go tok {} rfl ?_; conv => whnf))
  refine (contains_cutoff xs 116 [] [.ptr [.fn F fs cs] 0] (fun x => !p x) fun x hx => ?_).mono fun d hd => ?_
  · refine enter tok {} Tryz.func116 rfl (by kernel_rfl) Tryz.ntmps116 (by simp) fun B0 W0 V0 lent g0 => ?_
    ((conv => whnf); repeat' (refine vcC_go tok {} rfl ?_; conv => whnf))
    refine (h x hx).mono fun d hd => ?_
    subst hd
    ((conv => whnf); repeat' (refine vcC_go tok {} rfl ?_; conv => whnf))
    exact ⟨rfl⟩
  subst hd
  ((conv => whnf); repeat' (refine vcC_go tok {} rfl ?_; conv => whnf))
  refine ⟨?_⟩
  rw [← List.not_all_eq_any_not, Bool.not_not]

theorem index_mat (xs : List Mat) (F : Nat) (fs cs : List D) (p : Mat → Bool) (h : ∀ x ∈ xs, Meets Tryz.prog F (fs ++ ([x.d] ++ cs)) fun r => r = bD (p x)) :
    Meets Tryz.prog 146 [.sl (xs.map Mat.cells), .fn F fs cs] fun d => ∃ r : Int, d = iD r ∧ (decide (r ≥ 0)) = xs.any p := by
  refine enter tok {} Tryz.func146 rfl (by kernel_rfl) Tryz.ntmps146 (by simp) fun B0 W0 V0 lent g0 => ?_
  ((conv => whnf); repeat' (refine vcC_go tok {} rfl ?_; conv => whnf))
  repeat' ((first | (intro hlq; (try simp only [List.length_map, maxLen] at hlq)) | refine Ka ?_ | refine Kb ?_ | refine Kc (hd := rfl) (e := ?_) | refine Kc (hd := Cond.cells_eq _) (e := ?_) | refine Kd (e := ?_) | refine ⟨(rfl : look _ _ = look _ _), ?_⟩ | fail) <;> ((conv => whnf); repeat' (refine vcC_go tok {} rfl ?_; conv => whnf)))
  refine loop_upd tok {} [] (X := Nat) (fun i => [(8, iB i)]) (fun _ => []) [] (fun i => i ≤ xs.length ∧ ∀ x ∈ xs.take i, p x = false) (fun i => xs.length - i) 0 ?_
  ((conv => whnf); repeat' (refine vcC_go tok {} rfl ?_; conv => whnf))
  refine And.intro ?_ ⟨⟨by omega, by simp⟩, fun i hΦ => ?_⟩
  · repeat' (first | exact True.intro | exact rfl | refine And.intro ?_ ?_)
  obtain ⟨hi, hp⟩ := hΦ
  ((conv => whnf); repeat' (refine vcC_go tok {} rfl ?_; conv => whnf))
  refine ⟨fun h1 => ?_, fun h1 => ?_⟩ <;> (try simp only [BB, List.length_map] at h1) <;> ((conv => whnf); repeat' (refine vcC_go tok {} rfl ?_; conv => whnf))
  · have h1' : i < xs.length := by omega
    repeat' ((first | (intro hlq; (try simp only [List.length_map, maxLen] at hlq)) | refine Ka ?_ | refine Kb ?_ | refine Kc (hd := rfl) (e := ?_) | refine Kc (hd := Mat.cells_eq _) (e := ?_) | refine Kd (e := ?_) | refine ⟨(rfl : look _ _ = look _ _), ?_⟩ | fail) <;> ((conv => whnf); repeat' (refine vcC_go tok {} rfl ?_; conv => whnf)))
    refine (h xs[i] (List.getElem_mem h1')).mono fun d hd => ?_
    subst hd
    ((conv => whnf); repeat' (refine vcC_go tok {} rfl ?_; conv => whnf))
    refine ⟨fun h2 => ?_, fun h2 => ?_⟩ <;> (try simp only [BB, List.length_map] at h2) <;> ((conv => whnf); repeat' (refine vcC_go tok {} rfl ?_; conv => whnf))
    · refine ⟨?_⟩
      exact ⟨_, rfl, by rw [List.any_eq_true.2 ⟨_, List.getElem_mem h1', h2⟩]; simp⟩
    · repeat' ((first | (intro hlq; (try simp only [List.length_map, maxLen] at hlq)) | refine Ka ?_ | refine Kb ?_ | refine Kc (hd := rfl) (e := ?_) | refine Kc (hd := Cond.cells_eq _) (e := ?_) | refine Kd (e := ?_) | refine ⟨(rfl : look _ _ = look _ _), ?_⟩ | fail) <;> ((conv => whnf); repeat' (refine vcC_go tok {} rfl ?_; conv => whnf)))
      refine ⟨⟨i + 1, ?_, ⟨by omega, take_snoc h1' hp h2⟩, by omega⟩⟩
      repeat' (first | exact True.intro | exact rfl | refine And.intro ?_ ?_)
  · refine ⟨?_⟩
    have : xs.take i = xs := List.take_of_length_le (by omega)
    rw [this] at hp
    exact ⟨_, rfl, by rw [any_take hp]; decide⟩

theorem contains_mat (xs : List Mat) (F : Nat) (fs cs : List D) (p : Mat → Bool) (h : ∀ x ∈ xs, Meets Tryz.prog F (fs ++ ([x.d] ++ cs)) fun r => r = bD (p x)) :
    Meets Tryz.prog 117 [.sl (xs.map Mat.cells), .fn F fs cs] fun d => d = bD (xs.any p) := by
  refine enter tok {} Tryz.func117 rfl (by kernel_rfl) Tryz.ntmps117 (by simp) fun B0 W0 V0 lent g0 => ?_
  ((conv => whnf); repeat' (refine vcC_go tok {} rfl ?_; conv => whnf))
  refine (index_mat xs F fs cs p h).mono fun d hd => ?_
  obtain ⟨r, rfl, hr⟩ := hd
  ((conv => whnf); repeat' (refine vcC_go tok {} rfl ?_; conv => whnf))
  refine ⟨?_⟩
  rw [hr]


theorem all_mat (xs : List Mat) (F : Nat) (fs cs : List D) (p : Mat → Bool) (h : ∀ x ∈ xs, Meets Tryz.prog F (fs ++ ([x.d] ++ cs)) fun r => r = bD (p x)) :
    Meets Tryz.prog 76 [.sl (xs.map Mat.cells), .fn F fs cs] fun d => d = bD (xs.all p) := by
  refine enter tok {} Tryz.func76 rfl (by kernel_rfl) Tryz.ntmps76 (by simp) fun B0 W0 V0 lent g0 => ?_
  ((conv => whnf); repeat' (refine vcC_go tok {} rfl ?_; conv => whnf))
  refine (contains_mat xs 118 [] [.ptr [.fn F fs cs] 0] (fun x => !p x) fun x hx => ?_).mono fun d hd => ?_
  · refine enter tok {} Tryz.func118 rfl (by kernel_rfl) Tryz.ntmps118 (by simp) fun B0 W0 V0 lent g0 => ?_
    ((conv => whnf); repeat' (refine vcC_go tok {} rfl ?_; conv => whnf))
    refine (h x hx).mono fun d hd => ?_
    subst hd
    ((conv => whnf); repeat' (refine vcC_go tok {} rfl ?_; conv => whnf))
    exact ⟨rfl⟩
  subst hd
  ((conv => whnf); repeat' (refine vcC_go tok {} rfl ?_; conv => whnf))
  refine ⟨?_⟩
  rw [← List.not_all_eq_any_not, Bool.not_not]

theorem index_leg (xs : List Leg) (F : Nat) (fs cs : List D) (p : Leg → Bool) (h : ∀ x ∈ xs, Meets Tryz.prog F (fs ++ ([x.d] ++ cs)) fun r => r = bD (p x)) :
    Meets Tryz.prog 147 [.sl (xs.map Leg.cells), .fn F fs cs] fun d => ∃ r : Int, d = iD r ∧ (decide (r ≥ 0)) = xs.any p := by
  refine enter tok {} Tryz.func147 rfl (by kernel_rfl) Tryz.ntmps147 (by simp) fun B0 W0 V0 lent g0 => ?_
  ((conv => whnf); repeat' (refine vcC_go tok {} rfl ?_; conv => whnf))
  repeat' ((first | (intro hlq; (try simp only [List.length_map, maxLen] at hlq)) | refine Ka ?_ | refine Kb ?_ | refine Kc (hd := rfl) (e := ?_) | refine Kc (hd := Cond.cells_eq _) (e := ?_) | refine Kd (e := ?_) | refine ⟨(rfl : look _ _ = look _ _), ?_⟩ | fail) <;> ((conv => whnf); repeat' (refine vcC_go tok {} rfl ?_; conv => whnf)))
  refine loop_upd tok {} [] (X := Nat) (fun i => [(8, iB i)]) (fun _ => []) [] (fun i => i ≤ xs.length ∧ ∀ x ∈ xs.take i, p x = false) (fun i => xs.length - i) 0 ?_
  ((conv => whnf); repeat' (refine vcC_go tok {} rfl ?_; conv => whnf))
  refine And.intro ?_ ⟨⟨by omega, by simp⟩, fun i hΦ => ?_⟩
  · repeat' (first | exact True.intro | exact rfl | refine And.intro ?_ ?_)
  obtain ⟨hi, hp⟩ := hΦ
  ((conv => whnf); repeat' (refine vcC_go tok {} rfl ?_; conv => whnf))
  refine ⟨fun h1 => ?_, fun h1 => ?_⟩ <;> (try simp only [BB, List.length_map] at h1) <;> ((conv => whnf); repeat' (refine vcC_go tok {} rfl ?_; conv => whnf))
  · have h1' : i < xs.length := by omega
    repeat' ((first | (intro hlq; (try simp only [List.length_map, maxLen] at hlq)) | refine Ka ?_ | refine Kb ?_ | refine Kc (hd := rfl) (e := ?_) | refine Kc (hd := Leg.cells_eq _) (e := ?_) | refine Kd (e := ?_) | refine ⟨(rfl : look _ _ = look _ _), ?_⟩ | fail) <;> ((conv => whnf); repeat' (refine vcC_go tok {} rfl ?_; conv => whnf)))
    refine (h xs[i] (List.getElem_mem h1')).mono fun d hd => ?_
    subst hd
    ((conv => whnf); repeat' (refine vcC_go tok {} rfl ?_; conv => whnf))
    refine ⟨fun h2 => ?_, fun h2 => ?_⟩ <;> (try simp only [BB, List.length_map] at h2) <;> ((conv => whnf); repeat' (refine vcC_go tok {} rfl ?_; conv => whnf))
    · refine ⟨?_⟩
      exact ⟨_, rfl, by rw [List.any_eq_true.2 ⟨_, List.getElem_mem h1', h2⟩]; simp⟩
    · repeat' ((first | (intro hlq; (try simp only [List.length_map, maxLen] at hlq)) | refine Ka ?_ | refine Kb ?_ | refine Kc (hd := rfl) (e := ?_) | refine Kc (hd := Cond.cells_eq _) (e := ?_) | refine Kd (e := ?_) | refine ⟨(rfl : look _ _ = look _ _), ?_⟩ | fail) <;> ((conv => whnf); repeat' (refine vcC_go tok {} rfl ?_; conv => whnf)))
      refine ⟨⟨i + 1, ?_, ⟨by omega, take_snoc h1' hp h2⟩, by omega⟩⟩
      repeat' (first | exact True.intro | exact rfl | refine And.intro ?_ ?_)
  · refine ⟨?_⟩
    have : xs.take i = xs := List.take_of_length_le (by omega)
    rw [this] at hp
    exact ⟨_, rfl, by rw [any_take hp]; decide⟩

theorem contains_leg (xs : List Leg) (F : Nat) (fs cs : List D) (p : Leg → Bool) (h : ∀ x ∈ xs, Meets Tryz.prog F (fs ++ ([x.d] ++ cs)) fun r => r = bD (p x)) :
    Meets Tryz.prog 119 [.sl (xs.map Leg.cells), .fn F fs cs] fun d => d = bD (xs.any p) := by
  refine enter tok {} Tryz.func119 rfl (by kernel_rfl) Tryz.ntmps119 (by simp) fun B0 W0 V0 lent g0 => ?_
  ((conv => whnf); repeat' (refine vcC_go tok {} rfl ?_; conv => whnf))
  refine (index_leg xs F fs cs p h).mono fun d hd => ?_
  obtain ⟨r, rfl, hr⟩ := hd
  ((conv => whnf); repeat' (refine vcC_go tok {} rfl ?_; conv => whnf))
  refine ⟨?_⟩
  rw [hr]


theorem all_leg (xs : List Leg) (F : Nat) (fs cs : List D) (p : Leg → Bool) (h : ∀ x ∈ xs, Meets Tryz.prog F (fs ++ ([x.d] ++ cs)) fun r => r = bD (p x)) :
    Meets Tryz.prog 78 [.sl (xs.map Leg.cells), .fn F fs cs] fun d => d = bD (xs.all p) := by
  refine enter tok {} Tryz.func78 rfl (by kernel_rfl) Tryz.ntmps78 (by simp) fun B0 W0 V0 lent g0 => ?_
  ((conv => whnf); repeat' (refine vcC_go tok {} rfl ?_; conv => whnf))
  refine (contains_leg xs 120 [] [.ptr [.fn F fs cs] 0] (fun x => !p x) fun x hx => ?_).mono fun d hd => ?_
  · refine enter tok {} Tryz.func120 rfl (by kernel_rfl) Tryz.ntmps120 (by simp) fun B0 W0 V0 lent g0 => ?_
    ((conv => whnf); repeat' (refine vcC_go tok {} rfl ?_; conv => whnf))
    refine (h x hx).mono fun d hd => ?_
    subst hd
    ((conv => whnf); repeat' (refine vcC_go tok {} rfl ?_; conv => whnf))
    exact ⟨rfl⟩
  subst hd
  ((conv => whnf); repeat' (refine vcC_go tok {} rfl ?_; conv => whnf))
  refine ⟨?_⟩
  rw [← List.not_all_eq_any_not, Bool.not_not]

theorem index_wave (xs : List Wave) (F : Nat) (fs cs : List D) (p : Wave → Bool) (h : ∀ x ∈ xs, Meets Tryz.prog F (fs ++ ([x.d] ++ cs)) fun r => r = bD (p x)) :
    Meets Tryz.prog 148 [.sl (xs.map Wave.cells), .fn F fs cs] fun d => ∃ r : Int, d = iD r ∧ (decide (r ≥ 0)) = xs.any p := by
  refine enter tok {} Tryz.func148 rfl (by kernel_rfl) Tryz.ntmps148 (by simp) fun B0 W0 V0 lent g0 => ?_
  ((conv => whnf); repeat' (refine vcC_go tok {} rfl ?_; conv => whnf))
  repeat' ((first | (intro hlq; (try simp only [List.length_map, maxLen] at hlq)) | refine Ka ?_ | refine Kb ?_ | refine Kc (hd := rfl) (e := ?_) | refine Kc (hd := Cond.cells_eq _) (e := ?_) | refine Kd (e := ?_) | refine ⟨(rfl : look _ _ = look _ _), ?_⟩ | fail) <;> ((conv => whnf); repeat' (refine vcC_go tok {} rfl ?_; conv => whnf)))
  refine loop_upd tok {} [] (X := Nat) (fun i => [(8, iB i)]) (fun _ => []) [] (fun i => i ≤ xs.length ∧ ∀ x ∈ xs.take i, p x = false) (fun i => xs.length - i) 0 ?_
  ((conv => whnf); repeat' (refine vcC_go tok {} rfl ?_; conv => whnf))
  refine And.intro ?_ ⟨⟨by omega, by simp⟩, fun i hΦ => ?_⟩
  · repeat' (first | exact True.intro | exact rfl | refine And.intro ?_ ?_)
  obtain ⟨hi, hp⟩ := hΦ
  ((conv => whnf); repeat' (refine vcC_go tok {} rfl ?_; conv => whnf))
  refine ⟨fun h1 => ?_, fun h1 => ?_⟩ <;> (try simp only [BB, List.length_map] at h1) <;> ((conv => whnf); repeat' (refine vcC_go tok {} rfl ?_; conv => whnf))
  · have h1' : i < xs.length := by omega
    repeat' ((first | (intro hlq; (try simp only [List.length_map, maxLen] at hlq)) | refine Ka ?_ | refine Kb ?_ | refine Kc (hd := rfl) (e := ?_) | refine Kc (hd := Wave.cells_eq _) (e := ?_) | refine Kd (e := ?_) | refine ⟨(rfl : look _ _ = look _ _), ?_⟩ | fail) <;> ((conv => whnf); repeat' (refine vcC_go tok {} rfl ?_; conv => whnf)))
    refine (h xs[i] (List.getElem_mem h1')).mono fun d hd => ?_
    subst hd
    ((conv => whnf); repeat' (refine vcC_go tok {} rfl ?_; conv => whnf))
    refine ⟨fun h2 => ?_, fun h2 => ?_⟩ <;> (try simp only [BB, List.length_map] at h2) <;> ((conv => whnf); repeat' (refine vcC_go tok {} rfl ?_; conv => whnf))
    · refine ⟨?_⟩
      exact ⟨_, rfl, by rw [List.any_eq_true.2 ⟨_, List.getElem_mem h1', h2⟩]; simp⟩
    · repeat' ((first | (intro hlq; (try simp only [List.length_map, maxLen] at hlq)) | refine Ka ?_ | refine Kb ?_ | refine Kc (hd := rfl) (e := ?_) | refine Kc (hd := Cond.cells_eq _) (e := ?_) | refine Kd (e := ?_) | refine ⟨(rfl : look _ _ = look _ _), ?_⟩ | fail) <;> ((conv => whnf); repeat' (refine vcC_go tok {} rfl ?_; conv => whnf)))
      refine ⟨⟨i + 1, ?_, ⟨by omega, take_snoc h1' hp h2⟩, by omega⟩⟩
      repeat' (first | exact True.intro | exact rfl | refine And.intro ?_ ?_)
  · refine ⟨?_⟩
    have : xs.take i = xs := List.take_of_length_le (by omega)
    rw [this] at hp
    exact ⟨_, rfl, by rw [any_take hp]; decide⟩

theorem contains_wave (xs : List Wave) (F : Nat) (fs cs : List D) (p : Wave → Bool) (h : ∀ x ∈ xs, Meets Tryz.prog F (fs ++ ([x.d] ++ cs)) fun r => r = bD (p x)) :
    Meets Tryz.prog 121 [.sl (xs.map Wave.cells), .fn F fs cs] fun d => d = bD (xs.any p) := by
  refine enter tok {} Tryz.func121 rfl (by kernel_rfl) Tryz.ntmps121 (by simp) fun B0 W0 V0 lent g0 => ?_
  ((conv => whnf); repeat' (refine vcC_go tok {} rfl ?_; conv => whnf))
  refine (index_wave xs F fs cs p h).mono fun d hd => ?_
  obtain ⟨r, rfl, hr⟩ := hd
  ((conv => whnf); repeat' (refine vcC_go tok {} rfl ?_; conv => whnf))
  refine ⟨?_⟩
  rw [hr]


theorem all_wave (xs : List Wave) (F : Nat) (fs cs : List D) (p : Wave → Bool) (h : ∀ x ∈ xs, Meets Tryz.prog F (fs ++ ([x.d] ++ cs)) fun r => r = bD (p x)) :
    Meets Tryz.prog 81 [.sl (xs.map Wave.cells), .fn F fs cs] fun d => d = bD (xs.all p) := by
  refine enter tok {} Tryz.func81 rfl (by kernel_rfl) Tryz.ntmps81 (by simp) fun B0 W0 V0 lent g0 => ?_
  ((conv => whnf); repeat' (refine vcC_go tok {} rfl ?_; conv => whnf))
  refine (contains_wave xs 122 [] [.ptr [.fn F fs cs] 0] (fun x => !p x) fun x hx => ?_).mono fun d hd => ?_
  · refine enter tok {} Tryz.func122 rfl (by kernel_rfl) Tryz.ntmps122 (by simp) fun B0 W0 V0 lent g0 => ?_
    ((conv => whnf); repeat' (refine vcC_go tok {} rfl ?_; conv => whnf))
    refine (h x hx).mono fun d hd => ?_
    subst hd
    ((conv => whnf); repeat' (refine vcC_go tok {} rfl ?_; conv => whnf))
    exact ⟨rfl⟩
  subst hd
  ((conv => whnf); repeat' (refine vcC_go tok {} rfl ?_; conv => whnf))
  refine ⟨?_⟩
  rw [← List.not_all_eq_any_not, Bool.not_not]

theorem index_offence (xs : List Offence) (F : Nat) (fs cs : List D) (p : Offence → Bool) (h : ∀ x ∈ xs, Meets Tryz.prog F (fs ++ ([x.d] ++ cs)) fun r => r = bD (p x)) :
    Meets Tryz.prog 149 [.sl (xs.map Offence.cells), .fn F fs cs] fun d => ∃ r : Int, d = iD r ∧ (decide (r ≥ 0)) = xs.any p := by
  refine enter tok {} Tryz.func149 rfl (by kernel_rfl) Tryz.ntmps149 (by simp) fun B0 W0 V0 lent g0 => ?_
  ((conv => whnf); repeat' (refine vcC_go tok {} rfl ?_; conv => whnf))
  repeat' ((first | (intro hlq; (try simp only [List.length_map, maxLen] at hlq)) | refine Ka ?_ | refine Kb ?_ | refine Kc (hd := rfl) (e := ?_) | refine Kc (hd := Cond.cells_eq _) (e := ?_) | refine Kd (e := ?_) | refine ⟨(rfl : look _ _ = look _ _), ?_⟩ | fail) <;> ((conv => whnf); repeat' (refine vcC_go tok {} rfl ?_; conv => whnf)))
  refine loop_upd tok {} [] (X := Nat) (fun i => [(8, iB i)]) (fun _ => []) [] (fun i => i ≤ xs.length ∧ ∀ x ∈ xs.take i, p x = false) (fun i => xs.length - i) 0 ?_
  ((conv => whnf); repeat' (refine vcC_go tok {} rfl ?_; conv => whnf))
  refine And.intro ?_ ⟨⟨by omega, by simp⟩, fun i hΦ => ?_⟩
  · repeat' (first | exact True.intro | exact rfl | refine And.intro ?_ ?_)
  obtain ⟨hi, hp⟩ := hΦ
  ((conv => whnf); repeat' (refine vcC_go tok {} rfl ?_; conv => whnf))
  refine ⟨fun h1 => ?_, fun h1 => ?_⟩ <;> (try simp only [BB, List.length_map] at h1) <;> ((conv => whnf); repeat' (refine vcC_go tok {} rfl ?_; conv => whnf))
  · have h1' : i < xs.length := by omega
    repeat' ((first | (intro hlq; (try simp only [List.length_map, maxLen] at hlq)) | refine Ka ?_ | refine Kb ?_ | refine Kc (hd := rfl) (e := ?_) | refine Kc (hd := Offence.cells_eq _) (e := ?_) | refine Kd (e := ?_) | refine ⟨(rfl : look _ _ = look _ _), ?_⟩ | fail) <;> ((conv => whnf); repeat' (refine vcC_go tok {} rfl ?_; conv => whnf)))
    refine (h xs[i] (List.getElem_mem h1')).mono fun d hd => ?_
    subst hd
    ((conv => whnf); repeat' (refine vcC_go tok {} rfl ?_; conv => whnf))
    refine ⟨fun h2 => ?_, fun h2 => ?_⟩ <;> (try simp only [BB, List.length_map] at h2) <;> ((conv => whnf); repeat' (refine vcC_go tok {} rfl ?_; conv => whnf))
    · refine ⟨?_⟩
      exact ⟨_, rfl, by rw [List.any_eq_true.2 ⟨_, List.getElem_mem h1', h2⟩]; simp⟩
    · repeat' ((first | (intro hlq; (try simp only [List.length_map, maxLen] at hlq)) | refine Ka ?_ | refine Kb ?_ | refine Kc (hd := rfl) (e := ?_) | refine Kc (hd := Cond.cells_eq _) (e := ?_) | refine Kd (e := ?_) | refine ⟨(rfl : look _ _ = look _ _), ?_⟩ | fail) <;> ((conv => whnf); repeat' (refine vcC_go tok {} rfl ?_; conv => whnf)))
      refine ⟨⟨i + 1, ?_, ⟨by omega, take_snoc h1' hp h2⟩, by omega⟩⟩
      repeat' (first | exact True.intro | exact rfl | refine And.intro ?_ ?_)
  · refine ⟨?_⟩
    have : xs.take i = xs := List.take_of_length_le (by omega)
    rw [this] at hp
    exact ⟨_, rfl, by rw [any_take hp]; decide⟩

theorem contains_offence (xs : List Offence) (F : Nat) (fs cs : List D) (p : Offence → Bool) (h : ∀ x ∈ xs, Meets Tryz.prog F (fs ++ ([x.d] ++ cs)) fun r => r = bD (p x)) :
    Meets Tryz.prog 123 [.sl (xs.map Offence.cells), .fn F fs cs] fun d => d = bD (xs.any p) := by
  refine enter tok {} Tryz.func123 rfl (by kernel_rfl) Tryz.ntmps123 (by simp) fun B0 W0 V0 lent g0 => ?_
  ((conv => whnf); repeat' (refine vcC_go tok {} rfl ?_; conv => whnf))
  refine (index_offence xs F fs cs p h).mono fun d hd => ?_
  obtain ⟨r, rfl, hr⟩ := hd
  ((conv => whnf); repeat' (refine vcC_go tok {} rfl ?_; conv => whnf))
  refine ⟨?_⟩
  rw [hr]


theorem all_offence (xs : List Offence) (F : Nat) (fs cs : List D) (p : Offence → Bool) (h : ∀ x ∈ xs, Meets Tryz.prog F (fs ++ ([x.d] ++ cs)) fun r => r = bD (p x)) :
    Meets Tryz.prog 83 [.sl (xs.map Offence.cells), .fn F fs cs] fun d => d = bD (xs.all p) := by
  refine enter tok {} Tryz.func83 rfl (by kernel_rfl) Tryz.ntmps83 (by simp) fun B0 W0 V0 lent g0 => ?_
  ((conv => whnf); repeat' (refine vcC_go tok {} rfl ?_; conv => whnf))
  refine (contains_offence xs 124 [] [.ptr [.fn F fs cs] 0] (fun x => !p x) fun x hx => ?_).mono fun d hd => ?_
  · refine enter tok {} Tryz.func124 rfl (by kernel_rfl) Tryz.ntmps124 (by simp) fun B0 W0 V0 lent g0 => ?_
    ((conv => whnf); repeat' (refine vcC_go tok {} rfl ?_; conv => whnf))
    refine (h x hx).mono fun d hd => ?_
    subst hd
    ((conv => whnf); repeat' (refine vcC_go tok {} rfl ?_; conv => whnf))
    exact ⟨rfl⟩
  subst hd
  ((conv => whnf); repeat' (refine vcC_go tok {} rfl ?_; conv => whnf))
  refine ⟨?_⟩
  rw [← List.not_all_eq_any_not, Bool.not_not]

theorem index_category (xs : List Category) (F : Nat) (fs cs : List D) (p : Category → Bool) (h : ∀ x ∈ xs, Meets Tryz.prog F (fs ++ ([x.d] ++ cs)) fun r => r = bD (p x)) :
    Meets Tryz.prog 150 [.sl (xs.map Category.cells), .fn F fs cs] fun d => ∃ r : Int, d = iD r ∧ (decide (r ≥ 0)) = xs.any p := by
  refine enter tok {} Tryz.func150 rfl (by kernel_rfl) Tryz.ntmps150 (by simp) fun B0 W0 V0 lent g0 => ?_
  ((conv => whnf); repeat' (refine vcC_go tok {} rfl ?_; conv => whnf))
  repeat' ((first | (intro hlq; (try simp only [List.length_map, maxLen] at hlq)) | refine Ka ?_ | refine Kb ?_ | refine Kc (hd := rfl) (e := ?_) | refine Kc (hd := Cond.cells_eq _) (e := ?_) | refine Kd (e := ?_) | refine ⟨(rfl : look _ _ = look _ _), ?_⟩ | fail) <;> ((conv => whnf); repeat' (refine vcC_go tok {} rfl ?_; conv => whnf)))
  refine loop_upd tok {} [] (X := Nat) (fun i => [(8, iB i)]) (fun _ => []) [] (fun i => i ≤ xs.length ∧ ∀ x ∈ xs.take i, p x = false) (fun i => xs.length - i) 0 ?_
  ((conv => whnf); repeat' (refine vcC_go tok {} rfl ?_; conv => whnf))
  refine And.intro ?_ ⟨⟨by omega, by simp⟩, fun i hΦ => ?_⟩
  · repeat' (first | exact True.intro | exact rfl | refine And.intro ?_ ?_)
  obtain ⟨hi, hp⟩ := hΦ
  ((conv => whnf); repeat' (refine vcC_go tok {} rfl ?_; conv => whnf))
  refine ⟨fun h1 => ?_, fun h1 => ?_⟩ <;> (try simp only [BB, List.length_map] at h1) <;> ((conv => whnf); repeat' (refine vcC_go tok {} rfl ?_; conv => whnf))
  · have h1' : i < xs.length := by omega
    repeat' ((first | (intro hlq; (try simp only [List.length_map, maxLen] at hlq)) | refine Ka ?_ | refine Kb ?_ | refine Kc (hd := rfl) (e := ?_) | refine Kc (hd := Category.cells_eq _) (e := ?_) | refine Kd (e := ?_) | refine ⟨(rfl : look _ _ = look _ _), ?_⟩ | fail) <;> ((conv => whnf); repeat' (refine vcC_go tok {} rfl ?_; conv => whnf)))
    refine (h xs[i] (List.getElem_mem h1')).mono fun d hd => ?_
    subst hd
    ((conv => whnf); repeat' (refine vcC_go tok {} rfl ?_; conv => whnf))
    refine ⟨fun h2 => ?_, fun h2 => ?_⟩ <;> (try simp only [BB, List.length_map] at h2) <;> ((conv => whnf); repeat' (refine vcC_go tok {} rfl ?_; conv => whnf))
    · refine ⟨?_⟩
      exact ⟨_, rfl, by rw [List.any_eq_true.2 ⟨_, List.getElem_mem h1', h2⟩]; simp⟩
    · repeat' ((first | (intro hlq; (try simp only [List.length_map, maxLen] at hlq)) | refine Ka ?_ | refine Kb ?_ | refine Kc (hd := rfl) (e := ?_) | refine Kc (hd := Cond.cells_eq _) (e := ?_) | refine Kd (e := ?_) | refine ⟨(rfl : look _ _ = look _ _), ?_⟩ | fail) <;> ((conv => whnf); repeat' (refine vcC_go tok {} rfl ?_; conv => whnf)))
      refine ⟨⟨i + 1, ?_, ⟨by omega, take_snoc h1' hp h2⟩, by omega⟩⟩
      repeat' (first | exact True.intro | exact rfl | refine And.intro ?_ ?_)
  · refine ⟨?_⟩
    have : xs.take i = xs := List.take_of_length_le (by omega)
    rw [this] at hp
    exact ⟨_, rfl, by rw [any_take hp]; decide⟩

theorem contains_category (xs : List Category) (F : Nat) (fs cs : List D) (p : Category → Bool) (h : ∀ x ∈ xs, Meets Tryz.prog F (fs ++ ([x.d] ++ cs)) fun r => r = bD (p x)) :
    Meets Tryz.prog 125 [.sl (xs.map Category.cells), .fn F fs cs] fun d => d = bD (xs.any p) := by
  refine enter tok {} Tryz.func125 rfl (by kernel_rfl) Tryz.ntmps125 (by simp) fun B0 W0 V0 lent g0 => ?_
  ((conv => whnf); repeat' (refine vcC_go tok {} rfl ?_; conv => whnf))
  refine (index_category xs F fs cs p h).mono fun d hd => ?_
  obtain ⟨r, rfl, hr⟩ := hd
  ((conv => whnf); repeat' (refine vcC_go tok {} rfl ?_; conv => whnf))
  refine ⟨?_⟩
  rw [hr]


theorem all_category (xs : List Category) (F : Nat) (fs cs : List D) (p : Category → Bool) (h : ∀ x ∈ xs, Meets Tryz.prog F (fs ++ ([x.d] ++ cs)) fun r => r = bD (p x)) :
    Meets Tryz.prog 84 [.sl (xs.map Category.cells), .fn F fs cs] fun d => d = bD (xs.all p) := by
  refine enter tok {} Tryz.func84 rfl (by kernel_rfl) Tryz.ntmps84 (by simp) fun B0 W0 V0 lent g0 => ?_
  ((conv => whnf); repeat' (refine vcC_go tok {} rfl ?_; conv => whnf))
  refine (contains_category xs 126 [] [.ptr [.fn F fs cs] 0] (fun x => !p x) fun x hx => ?_).mono fun d hd => ?_
  · refine enter tok {} Tryz.func126 rfl (by kernel_rfl) Tryz.ntmps126 (by simp) fun B0 W0 V0 lent g0 => ?_
    ((conv => whnf); repeat' (refine vcC_go tok {} rfl ?_; conv => whnf))
    refine (h x hx).mono fun d hd => ?_
    subst hd
    ((conv => whnf); repeat' (refine vcC_go tok {} rfl ?_; conv => whnf))
    exact ⟨rfl⟩
  subst hd
  ((conv => whnf); repeat' (refine vcC_go tok {} rfl ?_; conv => whnf))
  refine ⟨?_⟩
  rw [← List.not_all_eq_any_not, Bool.not_not]

theorem index_prize (xs : List Prize) (F : Nat) (fs cs : List D) (p : Prize → Bool) (h : ∀ x ∈ xs, Meets Tryz.prog F (fs ++ ([x.d] ++ cs)) fun r => r = bD (p x)) :
    Meets Tryz.prog 151 [.sl (xs.map Prize.cells), .fn F fs cs] fun d => ∃ r : Int, d = iD r ∧ (decide (r ≥ 0)) = xs.any p := by
  refine enter tok {} Tryz.func151 rfl (by kernel_rfl) Tryz.ntmps151 (by simp) fun B0 W0 V0 lent g0 => ?_
  ((conv => whnf); repeat' (refine vcC_go tok {} rfl ?_; conv => whnf))
  repeat' ((first | (intro hlq; (try simp only [List.length_map, maxLen] at hlq)) | refine Ka ?_ | refine Kb ?_ | refine Kc (hd := rfl) (e := ?_) | refine Kc (hd := Cond.cells_eq _) (e := ?_) | refine Kd (e := ?_) | refine ⟨(rfl : look _ _ = look _ _), ?_⟩ | fail) <;> ((conv => whnf); repeat' (refine vcC_go tok {} rfl ?_; conv => whnf)))
  refine loop_upd tok {} [] (X := Nat) (fun i => [(8, iB i)]) (fun _ => []) [] (fun i => i ≤ xs.length ∧ ∀ x ∈ xs.take i, p x = false) (fun i => xs.length - i) 0 ?_
  ((conv => whnf); repeat' (refine vcC_go tok {} rfl ?_; conv => whnf))
  refine And.intro ?_ ⟨⟨by omega, by simp⟩, fun i hΦ => ?_⟩
  · repeat' (first | exact True.intro | exact rfl | refine And.intro ?_ ?_)
  obtain ⟨hi, hp⟩ := hΦ
  ((conv => whnf); repeat' (refine vcC_go tok {} rfl ?_; conv => whnf))
  refine ⟨fun h1 => ?_, fun h1 => ?_⟩ <;> (try simp only [BB, List.length_map] at h1) <;> ((conv => whnf); repeat' (refine vcC_go tok {} rfl ?_; conv => whnf))
  · have h1' : i < xs.length := by omega
    repeat' ((first | (intro hlq; (try simp only [List.length_map, maxLen] at hlq)) | refine Ka ?_ | refine Kb ?_ | refine Kc (hd := rfl) (e := ?_) | refine Kc (hd := Prize.cells_eq _) (e := ?_) | refine Kd (e := ?_) | refine ⟨(rfl : look _ _ = look _ _), ?_⟩ | fail) <;> ((conv => whnf); repeat' (refine vcC_go tok {} rfl ?_; conv => whnf)))
    refine (h xs[i] (List.getElem_mem h1')).mono fun d hd => ?_
    subst hd
    ((conv => whnf); repeat' (refine vcC_go tok {} rfl ?_; conv => whnf))
    refine ⟨fun h2 => ?_, fun h2 => ?_⟩ <;> (try simp only [BB, List.length_map] at h2) <;> ((conv => whnf); repeat' (refine vcC_go tok {} rfl ?_; conv => whnf))
    · refine ⟨?_⟩
      exact ⟨_, rfl, by rw [List.any_eq_true.2 ⟨_, List.getElem_mem h1', h2⟩]; simp⟩
    · repeat' ((first | (intro hlq; (try simp only [List.length_map, maxLen] at hlq)) | refine Ka ?_ | refine Kb ?_ | refine Kc (hd := rfl) (e := ?_) | refine Kc (hd := Cond.cells_eq _) (e := ?_) | refine Kd (e := ?_) | refine ⟨(rfl : look _ _ = look _ _), ?_⟩ | fail) <;> ((conv => whnf); repeat' (refine vcC_go tok {} rfl ?_; conv => whnf)))
      refine ⟨⟨i + 1, ?_, ⟨by omega, take_snoc h1' hp h2⟩, by omega⟩⟩
      repeat' (first | exact True.intro | exact rfl | refine And.intro ?_ ?_)
  · refine ⟨?_⟩
    have : xs.take i = xs := List.take_of_length_le (by omega)
    rw [this] at hp
    exact ⟨_, rfl, by rw [any_take hp]; decide⟩

theorem contains_prize (xs : List Prize) (F : Nat) (fs cs : List D) (p : Prize → Bool) (h : ∀ x ∈ xs, Meets Tryz.prog F (fs ++ ([x.d] ++ cs)) fun r => r = bD (p x)) :
    Meets Tryz.prog 127 [.sl (xs.map Prize.cells), .fn F fs cs] fun d => d = bD (xs.any p) := by
  refine enter tok {} Tryz.func127 rfl (by kernel_rfl) Tryz.ntmps127 (by simp) fun B0 W0 V0 lent g0 => ?_
  ((conv => whnf); repeat' (refine vcC_go tok {} rfl ?_; conv => whnf))
  refine (index_prize xs F fs cs p h).mono fun d hd => ?_
  obtain ⟨r, rfl, hr⟩ := hd
  ((conv => whnf); repeat' (refine vcC_go tok {} rfl ?_; conv => whnf))
  refine ⟨?_⟩
  rw [hr]


theorem all_prize (xs : List Prize) (F : Nat) (fs cs : List D) (p : Prize → Bool) (h : ∀ x ∈ xs, Meets Tryz.prog F (fs ++ ([x.d] ++ cs)) fun r => r = bD (p x)) :
    Meets Tryz.prog 86 [.sl (xs.map Prize.cells), .fn F fs cs] fun d => d = bD (xs.all p) := by
  refine enter tok {} Tryz.func86 rfl (by kernel_rfl) Tryz.ntmps86 (by simp) fun B0 W0 V0 lent g0 => ?_
  ((conv => whnf); repeat' (refine vcC_go tok {} rfl ?_; conv => whnf))
  refine (contains_prize xs 128 [] [.ptr [.fn F fs cs] 0] (fun x => !p x) fun x hx => ?_).mono fun d hd => ?_
  · refine enter tok {} Tryz.func128 rfl (by kernel_rfl) Tryz.ntmps128 (by simp) fun B0 W0 V0 lent g0 => ?_
    ((conv => whnf); repeat' (refine vcC_go tok {} rfl ?_; conv => whnf))
    refine (h x hx).mono fun d hd => ?_
    subst hd
    ((conv => whnf); repeat' (refine vcC_go tok {} rfl ?_; conv => whnf))
    exact ⟨rfl⟩
  subst hd
  ((conv => whnf); repeat' (refine vcC_go tok {} rfl ?_; conv => whnf))
  refine ⟨?_⟩
  rw [← List.not_all_eq_any_not, Bool.not_not]

end Go.Proofs.YtkkohadkpogdfaaGreat.Dx

