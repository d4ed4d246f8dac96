/- Chapter 06: Same, in the reference (as chapter 08's). -/
import Derived.Test.YtaopegkpjhkooaaGreatDoorBm
import Derived.Test.YtaopegkpjhkooaaGreatDoorBk
set_option linter.all false
namespace Go.Proofs.YtaopegkpjhkooaaGreatDoor.Dx
open Go Go.RowKit Go.Proofs
set_option maxRecDepth 100000
set_option maxHeartbeats 32000000
open Classical in
noncomputable def sameB {α : Type} (a b : α) : Bool := decide (a = b)
theorem sameB_true {α : Type} {a b : α} (h : a = b) : sameB a b = true := by simp only [sameB, decide_eq_true_eq]; exact h
theorem sameB_false {α : Type} {a b : α} (h : a ≠ b) : sameB a b = false := by simp only [sameB, decide_eq_false_iff_not]; exact h
theorem sameB_iff {α : Type} {a b : α} : sameB a b = true ↔ a = b := by simp only [sameB, decide_eq_true_eq]
theorem sameB_niff {α : Type} {a b : α} : sameB a b = false ↔ a ≠ b := by simp only [sameB, decide_eq_false_iff_not, ne_eq]
theorem take_eq_snoc {α : Type} {xs ys : List α} {i : Nat} (hi : i < xs.length) (hj : i < ys.length) (h : xs.take i = ys.take i) (e : xs[i] = ys[i]) : xs.take (i + 1) = ys.take (i + 1) := by
 rw [List.take_succ_eq_append_getElem hi, List.take_succ_eq_append_getElem hj, h, e]
theorem ne_at {α : Type} {xs ys : List α} {i : Nat} (hi : i < xs.length) (hj : i < ys.length) (e : xs[i] ≠ ys[i]) : xs ≠ ys := by
 rintro rfl; exact e rfl
theorem ne_len {α : Type} {xs ys : List α} (h : (xs.length : Int) ≠ ys.length) : xs ≠ ys := by
 rintro rfl; exact h rfl
theorem take_all {α : Type} {xs ys : List α} {i : Nat} (hi : ¬ (i : Int) < xs.length) (hl : xs.length = ys.length) (h : xs.take i = ys.take i) : xs = ys := by
 rwa [List.take_of_length_le (by omega), List.take_of_length_le (by omega)] at h
theorem Cond.e_iff {a b : Cond} : a = b ↔ a.kind = b.kind ∧ a.var = b.var ∧ a.n = b.n ∧ a.parts = b.parts := by obtain ⟨_, _, _, _⟩ := a; obtain ⟨_, _, _, _⟩ := b; simp
theorem Step.e_iff {a b : Step} : a = b ↔ a.kind = b.kind ∧ a.crit = b.crit ∧ a.cond = b.cond ∧ a.th = b.th ∧ a.el = b.el := by obtain ⟨_, _, _, _, _⟩ := a; obtain ⟨_, _, _, _, _⟩ := b; simp
theorem Part.e_iff {a b : Part} : a = b ↔ a.mat = b.mat ∧ a.laps = b.laps ∧ a.parts = b.parts := by obtain ⟨_, _, _⟩ := a; obtain ⟨_, _, _⟩ := b; simp
theorem Distance.e_iff {a b : Distance} : a = b ↔ a.name = b.name ∧ a.timing = b.timing ∧ a.extra = b.extra ∧ a.cutoffs = b.cutoffs ∧ a.route = b.route := by
 constructor
 · rintro rfl; simp
 · obtain ⟨⟩ := a; obtain ⟨⟩ := b
   rintro ⟨h1, h2, h3, h4, h5⟩
   simp_all
theorem Faults.e_iff {a b : Faults} : a = b ↔ [a.misses, a.strays, a.window, a.residual, a.drift] = [b.misses, b.strays, b.window, b.residual, b.drift] := by obtain ⟨_, _, _, _, _⟩ := a; obtain ⟨_, _, _, _, _⟩ := b; simp
theorem Course.e_iff {a b : Course} : a = b ↔ a.name = b.name ∧ a.faults = b.faults ∧ a.fee = b.fee ∧ a.deadline = b.deadline ∧ a.mats = b.mats ∧ a.legs = b.legs ∧ a.distances = b.distances ∧ a.waves = b.waves ∧ a.offences = b.offences ∧ a.categories = b.categories ∧ a.prizes = b.prizes ∧ a.ties = b.ties := by
 constructor
 · rintro rfl; simp
 · obtain ⟨⟩ := a; obtain ⟨⟩ := b
   rintro ⟨h1, h2, h3, h4, h5, h6, h7, h8, h9, h10, h11, h12⟩
   simp_all
theorem Step.szl (s : Step) : SizeOf.sizeOf s.th < SizeOf.sizeOf s ∧ SizeOf.sizeOf s.el < SizeOf.sizeOf s := by
 obtain ⟨k, b, c, t, e⟩ := s
 simp only [Step.mk.sizeOf_spec]
 omega
theorem Part.szl (s : Part) : SizeOf.sizeOf s.parts < SizeOf.sizeOf s := by
 obtain ⟨k, b, c⟩ := s
 simp only [Part.mk.sizeOf_spec]
 omega
theorem sameCond6_meets (a b : Cond) : Meets Tryz.prog 15 [a.d, b.d] fun d => d = bD (sameB a b) := by
 have hp : ∀ x ∈ a.parts, ∀ y, Meets Tryz.prog 15 [x.d, y.d] fun d => d = bD (sameB x y) := fun x hx y => by
  have := Cond.size_part hx
  exact sameCond6_meets x y
 refine enter tok {} Tryz.func15 rfl (by kernel_rfl) Tryz.ntmps15 (by simp) fun B0 W0 V0 lent g0 => ?_
 ((conv => whnf); repeat' (refine Z rfl ?_; conv => whnf))
 repeat' ((first | (intro hlq; (try simp only [SL] at hlq)) | refine Ks ?_ | refine Kq ?_ | refine Kt ?_ | ((refine Kh (fun hb => ?_) fun hb => ?_) <;> (try simp only [BL] at hb)) | refine Ka ?_ | refine Kb ?_ | refine Kc (hd := rfl) (e := ?_) | refine Kc (hd := icells_eq _) (e := ?_) | refine Kd (e := ?_) | refine Kl rfl ?_ | fail) <;> ((conv => whnf); repeat' (refine Z rfl ?_; conv => whnf)))
 all_goals try
  refine ⟨congrArg bD ?_⟩
  exact (sameB_false (fun e => by rw [Cond.e_iff] at e; simp_all)).symm
  done
 · skip
   have hl : a.parts.length = b.parts.length := by omega
   refine loop_upd tok {} [] (X := Nat) (fun i => [(5, iB i)]) (fun _ => []) [] (fun i => i ≤ a.parts.length ∧ a.parts.take i = b.parts.take i) (fun i => a.parts.length - i) 0 ?_
   ((conv => whnf); repeat' (refine Z rfl ?_; conv => whnf))
   refine And.intro ?_ ⟨⟨by omega, rfl⟩, fun i hΦ => ?_⟩
   · exact Kr
   obtain ⟨hi, hq⟩ := hΦ
   ((conv => whnf); repeat' (refine Z rfl ?_; conv => whnf))
   repeat' ((first | (intro hlq; (try simp only [SL] at hlq)) | refine Ks ?_ | refine Kq ?_ | refine Kt ?_ | refine Ka ?_ | refine Kb ?_ | refine Kc (hd := rfl) (e := ?_) | refine Kc (hd := icells_eq _) (e := ?_) | refine Kd (e := ?_) | refine Kl rfl ?_ | fail) <;> ((conv => whnf); repeat' (refine Z rfl ?_; conv => whnf)))
   refine ⟨fun h1 => ?_, fun h1 => ?_⟩ <;> (try simp only [BL] at h1) <;> ((conv => whnf); repeat' (refine Z rfl ?_; conv => whnf))
   · have h1' : i < a.parts.length := by omega
     have h2' : i < b.parts.length := by omega
     refine draw_rule tok (cf := {}) (by kernel_rfl) [.p 0, .p 1, .p 2, .p 3, .p 4, .p 5, .p 6, .p 7, .p 8, .p 9, .s 10 [4,9,3,8,1,2,6,7,0,5], .p 11] (by kernel_rfl) ?_
     ((conv => whnf); repeat' (refine Z rfl ?_; conv => whnf))
     repeat' ((first | (intro hlq; (try simp only [SL] at hlq)) | refine Meets.k (hp a.parts[i] (List.getElem_mem h1') b.parts[i]) ?_ | refine Ks ?_ | refine Kq ?_ | refine Kt ?_ | ((refine Kh (fun hb => ?_) fun hb => ?_) <;> (try simp only [BL] at hb)) | refine Ka ?_ | refine Kb ?_ | refine Kc (hd := rfl) (e := ?_) | refine Kc (hd := Cond.cells_eq _) (e := ?_) | refine Kd (e := ?_) | refine Kl rfl ?_ | fail) <;> ((conv => whnf); repeat' (refine Z rfl ?_; conv => whnf)))
     · exact ⟨congrArg bD (sameB_false fun e => ne_at h1' h2' (sameB_niff.1 (by assumption)) (by rw [e])).symm⟩
     · refine ⟨⟨i + 1, ?_, ⟨by omega, take_eq_snoc h1' h2' hq (sameB_iff.1 (by assumption))⟩, by omega⟩⟩
       repeat' (first | exact True.intro | exact rfl | refine And.intro ?_ ?_)
   · refine ⟨congrArg bD (sameB_true ?_).symm⟩
     have := take_all (by omega) hl hq
     rw [Cond.e_iff]
     exact ⟨by omega, by omega, by omega, this⟩
termination_by SizeOf.sizeOf a
decreasing_by assumption
theorem sameSteps6_meets (xs ys : List Step) : Meets Tryz.prog 18 [.sl (xs.map Step.cells), .sl (ys.map Step.cells)] fun d => d = bD (sameB xs ys) := by
 have hp : ∀ x ∈ xs, ∀ y : Step, Meets Tryz.prog 18 [.sl (x.th.map Step.cells), .sl (y.th.map Step.cells)] fun d => d = bD (sameB x.th y.th) := fun x hx y => by
  have := List.sizeOf_lt_of_mem hx
  have := Step.szl x
  have hlt : SizeOf.sizeOf x.th < SizeOf.sizeOf xs := by omega
  exact sameSteps6_meets x.th y.th
 have hr : ∀ x ∈ xs, ∀ y : Step, Meets Tryz.prog 18 [.sl (x.el.map Step.cells), .sl (y.el.map Step.cells)] fun d => d = bD (sameB x.el y.el) := fun x hx y => by
  have := List.sizeOf_lt_of_mem hx
  have := Step.szl x
  have hlt : SizeOf.sizeOf x.el < SizeOf.sizeOf xs := by omega
  exact sameSteps6_meets x.el y.el
 refine enter tok {} Tryz.func18 rfl (by kernel_rfl) Tryz.ntmps18 (by simp) fun B0 W0 V0 lent g0 => ?_
 ((conv => whnf); repeat' (refine Z rfl ?_; conv => whnf))
 repeat' ((first | (intro hlq; (try simp only [SL] at hlq)) | refine Ks ?_ | refine Kq ?_ | refine Kt ?_ | refine Ka ?_ | refine Kb ?_ | refine Kc (hd := rfl) (e := ?_) | refine Kc (hd := icells_eq _) (e := ?_) | refine Kd (e := ?_) | refine Kl rfl ?_ | fail) <;> ((conv => whnf); repeat' (refine Z rfl ?_; conv => whnf)))
 refine ⟨fun h0 => ?_, fun h0 => ?_⟩ <;> (try simp only [BL] at h0) <;> ((conv => whnf); repeat' (refine Z rfl ?_; conv => whnf))
 · exact ⟨congrArg bD (sameB_false (ne_len (by simpa using h0))).symm⟩
 have hl : xs.length = ys.length := by omega
 refine loop_upd tok {} [] (X := Nat) (fun i => [(5, iB i)]) (fun _ => []) [] (fun i => i ≤ xs.length ∧ xs.take i = ys.take i) (fun i => xs.length - i) 0 ?_
 ((conv => whnf); repeat' (refine Z rfl ?_; conv => whnf))
 refine And.intro ?_ ⟨⟨by omega, rfl⟩, fun i hΦ => ?_⟩
 · exact Kr
 obtain ⟨hi, hq⟩ := hΦ
 ((conv => whnf); repeat' (refine Z rfl ?_; conv => whnf))
 repeat' ((first | (intro hlq; (try simp only [SL] at hlq)) | refine Ks ?_ | refine Kq ?_ | refine Kt ?_ | refine Ka ?_ | refine Kb ?_ | refine Kc (hd := rfl) (e := ?_) | refine Kc (hd := icells_eq _) (e := ?_) | refine Kd (e := ?_) | refine Kl rfl ?_ | fail) <;> ((conv => whnf); repeat' (refine Z rfl ?_; conv => whnf)))
 refine ⟨fun h1 => ?_, fun h1 => ?_⟩ <;> (try simp only [BL] at h1) <;> ((conv => whnf); repeat' (refine Z rfl ?_; conv => whnf))
 · have h1' : i < xs.length := by omega
   have h2' : i < ys.length := by omega
   refine draw_rule tok (cf := {}) (by kernel_rfl) [.p 0, .p 1, .p 2, .p 3, .p 4, .p 5, .p 6, .p 7, .p 8, .p 9, .p 10, .p 11, .p 12, .p 13, .p 14, .p 15, .p 16, .p 17, .p 18, .p 19, .p 20, .p 21, .p 22, .p 23, .p 24, .p 25, .p 26, .p 27, .p 28, .p 29, .p 30, .p 31, .p 32, .p 33, .p 34, .s 35 [29,34,24,28,33,23,11,27,32,22,10,25,26,30,31,16,21,4,9,15,20,3,8,14,19,2,7,12,13,17,18,0,1,5,6], .p 36, .p 37, .p 38, .p 39, .p 40, .p 41, .p 42, .p 43, .p 44, .p 45, .p 46, .p 47, .p 48, .s 49 [43,48,38,42,47,37,41,46,36,39,40,44,45], .p 50, .p 51, .p 52, .p 53, .p 54, .p 55, .p 56, .p 57, .p 58, .p 59, .p 60, .p 61, .p 62, .s 63 [57,62,52,56,61,51,55,60,50,53,54,58,59], .p 64, .p 65] (by kernel_rfl) ?_
   ((conv => whnf); repeat' (refine Z rfl ?_; conv => whnf))
   repeat' ((first | (intro hlq; (try simp only [SL] at hlq)) | refine Meets.k (sameCond6_meets xs[i].cond ys[i].cond) ?_ | refine Meets.k (hp xs[i] (List.getElem_mem h1') ys[i]) ?_ | refine Meets.k (hr xs[i] (List.getElem_mem h1') ys[i]) ?_ | refine Ks ?_ | refine Kq ?_ | refine Kt ?_ | ((refine Kh (fun hb => ?_) fun hb => ?_) <;> (try simp only [BL] at hb)) | refine Ka ?_ | refine Kb ?_ | refine Kc (hd := rfl) (e := ?_) | refine Kc (hd := Step.cells_eq _) (e := ?_) | refine Kd (e := ?_) | refine Kl rfl ?_ | fail) <;> ((conv => whnf); repeat' (refine Z rfl ?_; conv => whnf)))
   clear hp hr
   all_goals
    first
     | (refine ⟨congrArg bD (sameB_false (ne_at h1' h2' fun e => ?_)).symm⟩
        rw [Step.e_iff] at e
        (try simp only [sameB_iff, sameB_niff] at *)
        simp_all
        done)
     | (refine ⟨⟨i + 1, ?_, ⟨by omega, take_eq_snoc h1' h2' hq (Step.e_iff.2 ⟨by omega, by omega, sameB_iff.1 (by assumption), sameB_iff.1 (by assumption), sameB_iff.1 (by assumption)⟩)⟩, by omega⟩⟩
        (repeat' (first | exact True.intro | exact rfl | refine And.intro ?_ ?_)))
 · exact ⟨congrArg bD (sameB_true (take_all (by omega) hl hq)).symm⟩
termination_by SizeOf.sizeOf xs
decreasing_by all_goals assumption
end Go.Proofs.YtaopegkpjhkooaaGreatDoor.Dx
