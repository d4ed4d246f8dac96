/- slices.IndexFunc, slices.ContainsFunc and typing.all. -/
import Derived.Test.YteckbkljaneppaaGreatDoorMl
set_option linter.all false
namespace Go.Proofs.YteckbkljaneppaaGreatDoor.Dx
open Go Go.RowKit
set_option maxRecDepth 100000
set_option maxHeartbeats 4000000
theorem index_int (xs : List Int) (F : Nat) (fs cs : List D) (p : Int → Bool) (h : ∀ x ∈ xs, Meets Tryz.prog F (fs ++ ([iD x] ++ cs)) fun r => r = bD (p x)) :
 Meets Tryz.prog 193 [.sl (xs.map icells), .fn F fs cs] fun d => ∃ r : Int, d = iD r ∧ (decide (r ≥ 0)) = xs.any p := by
 refine enter tok {} Tryz.func193 rfl (by kernel_rfl) Tryz.ntmps193 (by simp) fun B0 W0 V0 lent g0 => ?_
 ((conv => whnf); repeat' (refine Z rfl ?_; conv => whnf))
 repeat' ((first | (intro hlq; (try simp only [SL] at hlq)) | refine Ka ?_ | refine Kb ?_ | refine Kc (hd := rfl) (e := ?_) | refine Kc (hd := Cond.cells_eq _) (e := ?_) | refine Kd (e := ?_) | refine Kl rfl ?_ | fail) <;> ((conv => whnf); repeat' (refine Z rfl ?_; conv => whnf)))
 refine loop_upd tok {} [] (X := Nat) (fun i => [(8, iB i)]) (fun _ => []) [] (fun i => i ≤ xs.length ∧ ∀ x ∈ xs.take i, p x = false) (fun i => xs.length - i) 0 ?_
 ((conv => whnf); repeat' (refine Z rfl ?_; conv => whnf))
 refine And.intro ?_ ⟨⟨by omega, by simp⟩, fun i hΦ => ?_⟩
 · exact Kr
 obtain ⟨hi, hp⟩ := hΦ
 ((conv => whnf); repeat' (refine Z rfl ?_; conv => whnf))
 refine ⟨fun h1 => ?_, fun h1 => ?_⟩ <;> (try simp only [BL] at h1) <;> ((conv => whnf); repeat' (refine Z rfl ?_; conv => whnf))
 · have h1' : i < xs.length := by omega
   repeat' ((first | (intro hlq; (try simp only [SL] at hlq)) | refine Ka ?_ | refine Kb ?_ | refine Kc (hd := rfl) (e := ?_) | refine Kc (hd := icells_eq _) (e := ?_) | refine Kd (e := ?_) | refine Kl rfl ?_ | fail) <;> ((conv => whnf); repeat' (refine Z rfl ?_; conv => whnf)))
   refine (h xs[i] (List.getElem_mem h1')).mono fun d hd => ?_
   subst hd
   ((conv => whnf); repeat' (refine Z rfl ?_; conv => whnf))
   refine ⟨fun h2 => ?_, fun h2 => ?_⟩ <;> (try simp only [BL] at h2) <;> ((conv => whnf); repeat' (refine Z rfl ?_; conv => whnf))
   · refine ⟨?_⟩
     exact ⟨_, rfl, by rw [List.any_eq_true.2 ⟨_, List.getElem_mem h1', h2⟩]; simp⟩
   · repeat' ((first | (intro hlq; (try simp only [SL] at hlq)) | refine Ka ?_ | refine Kb ?_ | refine Kc (hd := rfl) (e := ?_) | refine Kc (hd := Cond.cells_eq _) (e := ?_) | refine Kd (e := ?_) | refine Kl rfl ?_ | fail) <;> ((conv => whnf); repeat' (refine Z rfl ?_; conv => whnf)))
     refine ⟨⟨i + 1, ?_, ⟨by omega, take_snoc h1' hp h2⟩, by omega⟩⟩
     repeat' (first | exact True.intro | exact rfl | refine And.intro ?_ ?_)
 · refine ⟨?_⟩
   have : xs.take i = xs := List.take_of_length_le (by omega)
   rw [this] at hp
   exact ⟨_, rfl, by rw [any_take hp]; decide⟩
theorem contains_int (xs : List Int) (F : Nat) (fs cs : List D) (p : Int → Bool) (h : ∀ x ∈ xs, Meets Tryz.prog F (fs ++ ([iD x] ++ cs)) fun r => r = bD (p x)) :
 Meets Tryz.prog 158 [.sl (xs.map icells), .fn F fs cs] fun d => d = bD (xs.any p) := by
 refine enter tok {} Tryz.func158 rfl (by kernel_rfl) Tryz.ntmps158 (by simp) fun B0 W0 V0 lent g0 => ?_
 ((conv => whnf); repeat' (refine Z rfl ?_; conv => whnf))
 refine (index_int xs F fs cs p h).mono fun d hd => ?_
 obtain ⟨r, rfl, hr⟩ := hd
 ((conv => whnf); repeat' (refine Z rfl ?_; conv => whnf))
 refine ⟨?_⟩
 rw [hr]
theorem index_form (xs : List Form) (F : Nat) (fs cs : List D) (p : Form → Bool) (h : ∀ x ∈ xs, Meets Tryz.prog F (fs ++ ([x.d] ++ cs)) fun r => r = bD (p x)) :
 Meets Tryz.prog 188 [.sl (xs.map Form.cells), .fn F fs cs] fun d => ∃ r : Int, d = iD r ∧ (decide (r ≥ 0)) = xs.any p := by
 refine enter tok {} Tryz.func188 rfl (by kernel_rfl) Tryz.ntmps188 (by simp) fun B0 W0 V0 lent g0 => ?_
 ((conv => whnf); repeat' (refine Z rfl ?_; conv => whnf))
 repeat' ((first | (intro hlq; (try simp only [SL] at hlq)) | refine Ka ?_ | refine Kb ?_ | refine Kc (hd := rfl) (e := ?_) | refine Kc (hd := Cond.cells_eq _) (e := ?_) | refine Kd (e := ?_) | refine Kl rfl ?_ | fail) <;> ((conv => whnf); repeat' (refine Z rfl ?_; conv => whnf)))
 refine loop_upd tok {} [] (X := Nat) (fun i => [(8, iB i)]) (fun _ => []) [] (fun i => i ≤ xs.length ∧ ∀ x ∈ xs.take i, p x = false) (fun i => xs.length - i) 0 ?_
 ((conv => whnf); repeat' (refine Z rfl ?_; conv => whnf))
 refine And.intro ?_ ⟨⟨by omega, by simp⟩, fun i hΦ => ?_⟩
 · exact Kr
 obtain ⟨hi, hp⟩ := hΦ
 ((conv => whnf); repeat' (refine Z rfl ?_; conv => whnf))
 refine ⟨fun h1 => ?_, fun h1 => ?_⟩ <;> (try simp only [BL] at h1) <;> ((conv => whnf); repeat' (refine Z rfl ?_; conv => whnf))
 · have h1' : i < xs.length := by omega
   repeat' ((first | (intro hlq; (try simp only [SL] at hlq)) | refine Ka ?_ | refine Kb ?_ | refine Kc (hd := rfl) (e := ?_) | refine Kc (hd := Form.cells_eq _) (e := ?_) | refine Kd (e := ?_) | refine Kl rfl ?_ | fail) <;> ((conv => whnf); repeat' (refine Z rfl ?_; conv => whnf)))
   refine (h xs[i] (List.getElem_mem h1')).mono fun d hd => ?_
   subst hd
   ((conv => whnf); repeat' (refine Z rfl ?_; conv => whnf))
   refine ⟨fun h2 => ?_, fun h2 => ?_⟩ <;> (try simp only [BL] at h2) <;> ((conv => whnf); repeat' (refine Z rfl ?_; conv => whnf))
   · refine ⟨?_⟩
     exact ⟨_, rfl, by rw [List.any_eq_true.2 ⟨_, List.getElem_mem h1', h2⟩]; simp⟩
   · repeat' ((first | (intro hlq; (try simp only [SL] at hlq)) | refine Ka ?_ | refine Kb ?_ | refine Kc (hd := rfl) (e := ?_) | refine Kc (hd := Cond.cells_eq _) (e := ?_) | refine Kd (e := ?_) | refine Kl rfl ?_ | fail) <;> ((conv => whnf); repeat' (refine Z rfl ?_; conv => whnf)))
     refine ⟨⟨i + 1, ?_, ⟨by omega, take_snoc h1' hp h2⟩, by omega⟩⟩
     repeat' (first | exact True.intro | exact rfl | refine And.intro ?_ ?_)
 · refine ⟨?_⟩
   have : xs.take i = xs := List.take_of_length_le (by omega)
   rw [this] at hp
   exact ⟨_, rfl, by rw [any_take hp]; decide⟩
theorem contains_form (xs : List Form) (F : Nat) (fs cs : List D) (p : Form → Bool) (h : ∀ x ∈ xs, Meets Tryz.prog F (fs ++ ([x.d] ++ cs)) fun r => r = bD (p x)) :
 Meets Tryz.prog 151 [.sl (xs.map Form.cells), .fn F fs cs] fun d => d = bD (xs.any p) := by
 refine enter tok {} Tryz.func151 rfl (by kernel_rfl) Tryz.ntmps151 (by simp) fun B0 W0 V0 lent g0 => ?_
 ((conv => whnf); repeat' (refine Z rfl ?_; conv => whnf))
 refine (index_form xs F fs cs p h).mono fun d hd => ?_
 obtain ⟨r, rfl, hr⟩ := hd
 ((conv => whnf); repeat' (refine Z rfl ?_; conv => whnf))
 refine ⟨?_⟩
 rw [hr]
theorem index_dist (xs : List Distance) (F : Nat) (fs cs : List D) (p : Distance → Bool) (h : ∀ x ∈ xs, Meets Tryz.prog F (fs ++ ([x.d] ++ cs)) fun r => r = bD (p x)) :
 Meets Tryz.prog 176 [.sl (xs.map Distance.cells), .fn F fs cs] fun d => ∃ r : Int, d = iD r ∧ (decide (r ≥ 0)) = xs.any p := by
 refine enter tok {} Tryz.func176 rfl (by kernel_rfl) Tryz.ntmps176 (by simp) fun B0 W0 V0 lent g0 => ?_
 ((conv => whnf); repeat' (refine Z rfl ?_; conv => whnf))
 repeat' ((first | (intro hlq; (try simp only [SL] at hlq)) | refine Ka ?_ | refine Kb ?_ | refine Kc (hd := rfl) (e := ?_) | refine Kc (hd := Cond.cells_eq _) (e := ?_) | refine Kd (e := ?_) | refine Kl rfl ?_ | fail) <;> ((conv => whnf); repeat' (refine Z rfl ?_; conv => whnf)))
 refine loop_upd tok {} [] (X := Nat) (fun i => [(8, iB i)]) (fun _ => []) [] (fun i => i ≤ xs.length ∧ ∀ x ∈ xs.take i, p x = false) (fun i => xs.length - i) 0 ?_
 ((conv => whnf); repeat' (refine Z rfl ?_; conv => whnf))
 refine And.intro ?_ ⟨⟨by omega, by simp⟩, fun i hΦ => ?_⟩
 · exact Kr
 obtain ⟨hi, hp⟩ := hΦ
 ((conv => whnf); repeat' (refine Z rfl ?_; conv => whnf))
 refine ⟨fun h1 => ?_, fun h1 => ?_⟩ <;> (try simp only [BL] at h1) <;> ((conv => whnf); repeat' (refine Z rfl ?_; conv => whnf))
 · have h1' : i < xs.length := by omega
   repeat' ((first | (intro hlq; (try simp only [SL] at hlq)) | refine Ka ?_ | refine Kb ?_ | refine Kc (hd := rfl) (e := ?_) | refine Kc (hd := Distance.cells_eq _) (e := ?_) | refine Kd (e := ?_) | refine Kl rfl ?_ | fail) <;> ((conv => whnf); repeat' (refine Z rfl ?_; conv => whnf)))
   refine (h xs[i] (List.getElem_mem h1')).mono fun d hd => ?_
   subst hd
   ((conv => whnf); repeat' (refine Z rfl ?_; conv => whnf))
   refine ⟨fun h2 => ?_, fun h2 => ?_⟩ <;> (try simp only [BL] at h2) <;> ((conv => whnf); repeat' (refine Z rfl ?_; conv => whnf))
   · refine ⟨?_⟩
     exact ⟨_, rfl, by rw [List.any_eq_true.2 ⟨_, List.getElem_mem h1', h2⟩]; simp⟩
   · repeat' ((first | (intro hlq; (try simp only [SL] at hlq)) | refine Ka ?_ | refine Kb ?_ | refine Kc (hd := rfl) (e := ?_) | refine Kc (hd := Cond.cells_eq _) (e := ?_) | refine Kd (e := ?_) | refine Kl rfl ?_ | fail) <;> ((conv => whnf); repeat' (refine Z rfl ?_; conv => whnf)))
     refine ⟨⟨i + 1, ?_, ⟨by omega, take_snoc h1' hp h2⟩, by omega⟩⟩
     repeat' (first | exact True.intro | exact rfl | refine And.intro ?_ ?_)
 · refine ⟨?_⟩
   have : xs.take i = xs := List.take_of_length_le (by omega)
   rw [this] at hp
   exact ⟨_, rfl, by rw [any_take hp]; decide⟩
theorem contains_dist (xs : List Distance) (F : Nat) (fs cs : List D) (p : Distance → Bool) (h : ∀ x ∈ xs, Meets Tryz.prog F (fs ++ ([x.d] ++ cs)) fun r => r = bD (p x)) :
 Meets Tryz.prog 132 [.sl (xs.map Distance.cells), .fn F fs cs] fun d => d = bD (xs.any p) := by
 refine enter tok {} Tryz.func132 rfl (by kernel_rfl) Tryz.ntmps132 (by simp) fun B0 W0 V0 lent g0 => ?_
 ((conv => whnf); repeat' (refine Z rfl ?_; conv => whnf))
 refine (index_dist xs F fs cs p h).mono fun d hd => ?_
 obtain ⟨r, rfl, hr⟩ := hd
 ((conv => whnf); repeat' (refine Z rfl ?_; conv => whnf))
 refine ⟨?_⟩
 rw [hr]
theorem all_dist (xs : List Distance) (F : Nat) (fs cs : List D) (p : Distance → Bool) (h : ∀ x ∈ xs, Meets Tryz.prog F (fs ++ ([x.d] ++ cs)) fun r => r = bD (p x)) :
 Meets Tryz.prog 62 [.sl (xs.map Distance.cells), .fn F fs cs] fun d => d = bD (xs.all p) := by
 refine enter tok {} Tryz.func62 rfl (by kernel_rfl) Tryz.ntmps62 (by simp) fun B0 W0 V0 lent g0 => ?_
 ((conv => whnf); repeat' (refine Z rfl ?_; conv => whnf))
 refine (contains_dist xs 133 [] [.ptr [.fn F fs cs] 0] (fun x => !p x) fun x hx => ?_).mono fun d hd => ?_
 · refine enter tok {} Tryz.func133 rfl (by kernel_rfl) Tryz.ntmps133 (by simp) fun B0 W0 V0 lent g0 => ?_
   ((conv => whnf); repeat' (refine Z rfl ?_; conv => whnf))
   refine (h x hx).mono fun d hd => ?_
   subst hd
   ((conv => whnf); repeat' (refine Z rfl ?_; conv => whnf))
   exact ⟨rfl⟩
 subst hd
 ((conv => whnf); repeat' (refine Z rfl ?_; conv => whnf))
 refine ⟨?_⟩
 rw [← List.not_all_eq_any_not, Bool.not_not]
end Go.Proofs.YteckbkljaneppaaGreatDoor.Dx
