/- Same, in the code. -/
import Derived.Test.YteckbkljaneppaaGreatDoorPd
set_option linter.all false
namespace Go.Proofs.YteckbkljaneppaaGreatDoor.Dx
open Go Go.RowKit Go.Proofs
set_option maxRecDepth 100000
set_option maxHeartbeats 16000000
open Classical in
noncomputable def sameB {α : Type} (a b : α) : Bool := decide (a = b)
theorem sameB_true {α : Type} {a b : α} (h : a = b) : sameB a b = true := by simp only [sameB, decide_eq_true_eq]; exact h
theorem sameB_false {α : Type} {a b : α} (h : a ≠ b) : sameB a b = false := by simp only [sameB, decide_eq_false_iff_not]; exact h
theorem sameB_iff {α : Type} {a b : α} : sameB a b = true ↔ a = b := by simp only [sameB, decide_eq_true_eq]
theorem sameB_niff {α : Type} {a b : α} : sameB a b = false ↔ a ≠ b := by simp only [sameB, decide_eq_false_iff_not, ne_eq]
theorem take_eq_snoc {α : Type} {xs ys : List α} {i : Nat} (hi : i < xs.length) (hj : i < ys.length) (h : xs.take i = ys.take i) (e : xs[i] = ys[i]) : xs.take (i + 1) = ys.take (i + 1) := by
 rw [List.take_succ_eq_append_getElem hi, List.take_succ_eq_append_getElem hj, h, e]
theorem ne_at {α : Type} {xs ys : List α} {i : Nat} (hi : i < xs.length) (hj : i < ys.length) (e : xs[i] ≠ ys[i]) : xs ≠ ys := by
 rintro rfl; exact e rfl
theorem ne_len {α : Type} {xs ys : List α} (h : (xs.length : Int) ≠ ys.length) : xs ≠ ys := by
 rintro rfl; exact h rfl
theorem take_all {α : Type} {xs ys : List α} {i : Nat} (hi : ¬ (i : Int) < xs.length) (hl : xs.length = ys.length) (h : xs.take i = ys.take i) : xs = ys := by
 rwa [List.take_of_length_le (by omega), List.take_of_length_le (by omega)] at h
theorem Mat.c_iff {a b : Mat} : a.cells = b.cells ↔ a = b := by obtain ⟨_, _⟩ := a; obtain ⟨_, _⟩ := b; simp [Mat.cells]
theorem Leg.c_iff {a b : Leg} : [a.src, a.dst, a.lo, a.hi] = [b.src, b.dst, b.lo, b.hi] ↔ a = b := by obtain ⟨_, _, _, _⟩ := a; obtain ⟨_, _, _, _⟩ := b; simp
theorem Wave.c_iff {a b : Wave} : a.cells = b.cells ↔ a = b := by obtain ⟨_, _⟩ := a; obtain ⟨_, _⟩ := b; simp [Wave.cells]
theorem Offence.c_iff {a b : Offence} : a.cells = b.cells ↔ a = b := by obtain ⟨_, _, _, _⟩ := a; obtain ⟨_, _, _, _⟩ := b; simp [Offence.cells]
theorem Category.c_iff {a b : Category} : a.cells = b.cells ↔ a = b := by obtain ⟨_, _, _⟩ := a; obtain ⟨_, _, _⟩ := b; simp [Category.cells]
theorem Prize.c_iff {a b : Prize} : [a.distance, a.category, a.rank, a.amount] = [b.distance, b.category, b.rank, b.amount] ↔ a = b := by obtain ⟨_, _, _, _⟩ := a; obtain ⟨_, _, _, _⟩ := b; simp
theorem Cutoff.c_iff {a b : Cutoff} : [a.mat, a.lap, a.limit] = [b.mat, b.lap, b.limit] ↔ a = b := by obtain ⟨_, _, _⟩ := a; obtain ⟨_, _, _⟩ := b; simp
theorem Cond.e_iff {a b : Cond} : a = b ↔ a.kind = b.kind ∧ a.var = b.var ∧ a.n = b.n ∧ a.parts = b.parts := by obtain ⟨_, _, _, _⟩ := a; obtain ⟨_, _, _, _⟩ := b; simp
theorem Step.e_iff {a b : Step} : a = b ↔ a.kind = b.kind ∧ a.crit = b.crit ∧ a.cond = b.cond ∧ a.th = b.th ∧ a.el = b.el := by obtain ⟨_, _, _, _, _⟩ := a; obtain ⟨_, _, _, _, _⟩ := b; simp
theorem Part.e_iff {a b : Part} : a = b ↔ a.mat = b.mat ∧ a.laps = b.laps ∧ a.parts = b.parts := by obtain ⟨_, _, _⟩ := a; obtain ⟨_, _, _⟩ := b; simp
theorem Distance.e_iff {a b : Distance} : a = b ↔ a.name = b.name ∧ a.timing = b.timing ∧ a.extra = b.extra ∧ a.cutoffs = b.cutoffs ∧ a.route = b.route := by
 constructor
 · rintro rfl; simp
 · obtain ⟨⟩ := a; obtain ⟨⟩ := b
   rintro ⟨h1, h2, h3, h4, h5⟩
   simp_all
theorem Faults.e_iff {a b : Faults} : a = b ↔ [a.misses, a.strays, a.window, a.residual, a.drift] = [b.misses, b.strays, b.window, b.residual, b.drift] := by obtain ⟨_, _, _, _, _⟩ := a; obtain ⟨_, _, _, _, _⟩ := b; simp
theorem Course.e_iff {a b : Course} : a = b ↔ a.name = b.name ∧ a.faults = b.faults ∧ a.fee = b.fee ∧ a.deadline = b.deadline ∧ a.mats = b.mats ∧ a.legs = b.legs ∧ a.distances = b.distances ∧ a.waves = b.waves ∧ a.offences = b.offences ∧ a.categories = b.categories ∧ a.prizes = b.prizes ∧ a.ties = b.ties := by
 constructor
 · rintro rfl; simp
 · obtain ⟨⟩ := a; obtain ⟨⟩ := b
   rintro ⟨h1, h2, h3, h4, h5, h6, h7, h8, h9, h10, h11, h12⟩
   simp_all
theorem eqs_mat (xs ys : List Mat) : Meets Tryz.prog 47 [.sl (xs.map Mat.cells), .sl (ys.map Mat.cells)] fun d => d = bD (sameB xs ys) := by
 refine enter tok {} Tryz.func47 rfl (by kernel_rfl) Tryz.ntmps47 (by simp) fun B0 W0 V0 lent g0 => ?_
 ((conv => whnf); repeat' (refine Z rfl ?_; conv => whnf))
 repeat' ((first | (intro hlq; (try simp only [SL] at hlq)) | refine Ks ?_ | refine Kq ?_ | refine Kt ?_ | refine Ka ?_ | refine Kb ?_ | refine Kc (hd := rfl) (e := ?_) | refine Kc (hd := Cond.cells_eq _) (e := ?_) | refine Kd (e := ?_) | refine Kl rfl ?_ | fail) <;> ((conv => whnf); repeat' (refine Z rfl ?_; conv => whnf)))
 refine ⟨fun h0 => ?_, fun h0 => ?_⟩ <;> (try simp only [BL] at h0) <;> ((conv => whnf); repeat' (refine Z rfl ?_; conv => whnf))
 · exact ⟨congrArg bD (sameB_false (ne_len (by simpa using h0))).symm⟩
 have hl : xs.length = ys.length := by omega
 repeat' ((first | (intro hlq; (try simp only [SL] at hlq)) | refine Ks ?_ | refine Kq ?_ | refine Kt ?_ | refine Ka ?_ | refine Kb ?_ | refine Kc (hd := rfl) (e := ?_) | refine Kc (hd := Cond.cells_eq _) (e := ?_) | refine Kd (e := ?_) | refine Kl rfl ?_ | fail) <;> ((conv => whnf); repeat' (refine Z rfl ?_; conv => whnf)))
 refine loop_upd tok {} [] (X := Nat) (fun i => [(13, iB i)]) (fun _ => []) [] (fun i => i ≤ xs.length ∧ xs.take i = ys.take i) (fun i => xs.length - i) 0 ?_
 ((conv => whnf); repeat' (refine Z rfl ?_; conv => whnf))
 refine And.intro ?_ ⟨⟨by omega, rfl⟩, fun i hΦ => ?_⟩
 · exact Kr
 obtain ⟨hi, hp⟩ := hΦ
 ((conv => whnf); repeat' (refine Z rfl ?_; conv => whnf))
 refine ⟨fun h1 => ?_, fun h1 => ?_⟩ <;> (try simp only [BL] at h1) <;> ((conv => whnf); repeat' (refine Z rfl ?_; conv => whnf))
 · have h1' : i < xs.length := by omega
   have h2' : i < ys.length := by omega
   repeat' ((first | (intro hlq; (try simp only [SL] at hlq)) | refine Ks ?_ | refine Kq ?_ | refine Kt ?_ | refine Ka ?_ | refine Kb ?_ | refine Kc (hd := rfl) (e := ?_) | refine Kc (hd := Cond.cells_eq _) (e := ?_) | refine Kd (e := ?_) | refine Kl rfl ?_ | fail) <;> ((conv => whnf); repeat' (refine Z rfl ?_; conv => whnf)))
   refine draw_rule tok (cf := {}) (by kernel_rfl) [.p 0, .p 1, .p 2, .p 3, .p 4, .p 5, .p 6, .p 7, .p 8] (by kernel_rfl) ?_
   ((conv => whnf); repeat' (refine Z rfl ?_; conv => whnf))
   repeat' ((first | (intro hlq; (try simp only [SL] at hlq)) | refine Ks ?_ | refine Kq ?_ | refine Kt ?_ | refine Ka ?_ | refine Kb ?_ | refine Kc (hd := rfl) (e := ?_) | refine Kc (hd := Mat.cells_eq _) (e := ?_) | refine Kd (e := ?_) | refine Kl rfl ?_ | fail) <;> ((conv => whnf); repeat' (refine Z rfl ?_; conv => whnf)))
   refine ⟨⟨⟨_, by simp [KScL, KSc], rfl⟩, ⟨_, by simp [KScL, KSc], rfl⟩⟩, ?_⟩
   ((conv => whnf); repeat' (refine Z rfl ?_; conv => whnf))
   repeat' ((first | (intro hlq; (try simp only [SL] at hlq)) | refine Ks ?_ | refine Kq ?_ | refine Kt ?_ | ((refine Kh (fun hb => ?_) fun hb => ?_) <;> (try simp only [BL] at hb)) | refine Ka ?_ | refine Kb ?_ | refine Kc (hd := rfl) (e := ?_) | refine Kc (hd := Cond.cells_eq _) (e := ?_) | refine Kd (e := ?_) | refine Kl rfl ?_ | fail) <;> ((conv => whnf); repeat' (refine Z rfl ?_; conv => whnf)))
   · exact ⟨congrArg bD (sameB_false (ne_at h1' h2' fun e => (by assumption : _ ≠ _) (Mat.c_iff.2 e))).symm⟩
   · refine ⟨⟨i + 1, ?_, ⟨by omega, take_eq_snoc h1' h2' hp (Mat.c_iff.1 (Classical.not_not.1 (by assumption)))⟩, by omega⟩⟩
     repeat' (first | exact True.intro | exact rfl | refine And.intro ?_ ?_)
 · exact ⟨congrArg bD (sameB_true (take_all (by omega) hl hp)).symm⟩
theorem eqs_leg (xs ys : List Leg) : Meets Tryz.prog 48 [.sl (xs.map Leg.cells), .sl (ys.map Leg.cells)] fun d => d = bD (sameB xs ys) := by
 refine enter tok {} Tryz.func48 rfl (by kernel_rfl) Tryz.ntmps48 (by simp) fun B0 W0 V0 lent g0 => ?_
 ((conv => whnf); repeat' (refine Z rfl ?_; conv => whnf))
 repeat' ((first | (intro hlq; (try simp only [SL] at hlq)) | refine Ks ?_ | refine Kq ?_ | refine Kt ?_ | refine Ka ?_ | refine Kb ?_ | refine Kc (hd := rfl) (e := ?_) | refine Kc (hd := Cond.cells_eq _) (e := ?_) | refine Kd (e := ?_) | refine Kl rfl ?_ | fail) <;> ((conv => whnf); repeat' (refine Z rfl ?_; conv => whnf)))
 refine ⟨fun h0 => ?_, fun h0 => ?_⟩ <;> (try simp only [BL] at h0) <;> ((conv => whnf); repeat' (refine Z rfl ?_; conv => whnf))
 · exact ⟨congrArg bD (sameB_false (ne_len (by simpa using h0))).symm⟩
 have hl : xs.length = ys.length := by omega
 repeat' ((first | (intro hlq; (try simp only [SL] at hlq)) | refine Ks ?_ | refine Kq ?_ | refine Kt ?_ | refine Ka ?_ | refine Kb ?_ | refine Kc (hd := rfl) (e := ?_) | refine Kc (hd := Cond.cells_eq _) (e := ?_) | refine Kd (e := ?_) | refine Kl rfl ?_ | fail) <;> ((conv => whnf); repeat' (refine Z rfl ?_; conv => whnf)))
 refine loop_upd tok {} [] (X := Nat) (fun i => [(13, iB i)]) (fun _ => []) [] (fun i => i ≤ xs.length ∧ xs.take i = ys.take i) (fun i => xs.length - i) 0 ?_
 ((conv => whnf); repeat' (refine Z rfl ?_; conv => whnf))
 refine And.intro ?_ ⟨⟨by omega, rfl⟩, fun i hΦ => ?_⟩
 · exact Kr
 obtain ⟨hi, hp⟩ := hΦ
 ((conv => whnf); repeat' (refine Z rfl ?_; conv => whnf))
 refine ⟨fun h1 => ?_, fun h1 => ?_⟩ <;> (try simp only [BL] at h1) <;> ((conv => whnf); repeat' (refine Z rfl ?_; conv => whnf))
 · have h1' : i < xs.length := by omega
   have h2' : i < ys.length := by omega
   repeat' ((first | (intro hlq; (try simp only [SL] at hlq)) | refine Ks ?_ | refine Kq ?_ | refine Kt ?_ | refine Ka ?_ | refine Kb ?_ | refine Kc (hd := rfl) (e := ?_) | refine Kc (hd := Cond.cells_eq _) (e := ?_) | refine Kd (e := ?_) | refine Kl rfl ?_ | fail) <;> ((conv => whnf); repeat' (refine Z rfl ?_; conv => whnf)))
   refine draw_rule tok (cf := {}) (by kernel_rfl) [.p 0, .p 1, .p 2, .p 3, .p 4, .p 5, .p 6, .p 7, .p 8] (by kernel_rfl) ?_
   ((conv => whnf); repeat' (refine Z rfl ?_; conv => whnf))
   repeat' ((first | (intro hlq; (try simp only [SL] at hlq)) | refine Ks ?_ | refine Kq ?_ | refine Kt ?_ | refine Ka ?_ | refine Kb ?_ | refine Kc (hd := rfl) (e := ?_) | refine Kc (hd := Leg.cells_eq _) (e := ?_) | refine Kd (e := ?_) | refine Kl rfl ?_ | fail) <;> ((conv => whnf); repeat' (refine Z rfl ?_; conv => whnf)))
   refine ⟨⟨⟨[xs[i].src, xs[i].dst, xs[i].lo, xs[i].hi], rfl, rfl⟩, ⟨[ys[i].src, ys[i].dst, ys[i].lo, ys[i].hi], rfl, rfl⟩⟩, ?_⟩
   ((conv => whnf); repeat' (refine Z rfl ?_; conv => whnf))
   repeat' ((first | (intro hlq; (try simp only [SL] at hlq)) | refine Ks ?_ | refine Kq ?_ | refine Kt ?_ | ((refine Kh (fun hb => ?_) fun hb => ?_) <;> (try simp only [BL] at hb)) | refine Ka ?_ | refine Kb ?_ | refine Kc (hd := rfl) (e := ?_) | refine Kc (hd := Cond.cells_eq _) (e := ?_) | refine Kd (e := ?_) | refine Kl rfl ?_ | fail) <;> ((conv => whnf); repeat' (refine Z rfl ?_; conv => whnf)))
   · exact ⟨congrArg bD (sameB_false (ne_at h1' h2' fun e => (by assumption : _ ≠ _) (Leg.c_iff.2 e))).symm⟩
   · refine ⟨⟨i + 1, ?_, ⟨by omega, take_eq_snoc h1' h2' hp (Leg.c_iff.1 (Classical.not_not.1 (by assumption)))⟩, by omega⟩⟩
     repeat' (first | exact True.intro | exact rfl | refine And.intro ?_ ?_)
 · exact ⟨congrArg bD (sameB_true (take_all (by omega) hl hp)).symm⟩
theorem eqs_wave (xs ys : List Wave) : Meets Tryz.prog 51 [.sl (xs.map Wave.cells), .sl (ys.map Wave.cells)] fun d => d = bD (sameB xs ys) := by
 refine enter tok {} Tryz.func51 rfl (by kernel_rfl) Tryz.ntmps51 (by simp) fun B0 W0 V0 lent g0 => ?_
 ((conv => whnf); repeat' (refine Z rfl ?_; conv => whnf))
 repeat' ((first | (intro hlq; (try simp only [SL] at hlq)) | refine Ks ?_ | refine Kq ?_ | refine Kt ?_ | refine Ka ?_ | refine Kb ?_ | refine Kc (hd := rfl) (e := ?_) | refine Kc (hd := Cond.cells_eq _) (e := ?_) | refine Kd (e := ?_) | refine Kl rfl ?_ | fail) <;> ((conv => whnf); repeat' (refine Z rfl ?_; conv => whnf)))
 refine ⟨fun h0 => ?_, fun h0 => ?_⟩ <;> (try simp only [BL] at h0) <;> ((conv => whnf); repeat' (refine Z rfl ?_; conv => whnf))
 · exact ⟨congrArg bD (sameB_false (ne_len (by simpa using h0))).symm⟩
 have hl : xs.length = ys.length := by omega
 repeat' ((first | (intro hlq; (try simp only [SL] at hlq)) | refine Ks ?_ | refine Kq ?_ | refine Kt ?_ | refine Ka ?_ | refine Kb ?_ | refine Kc (hd := rfl) (e := ?_) | refine Kc (hd := Cond.cells_eq _) (e := ?_) | refine Kd (e := ?_) | refine Kl rfl ?_ | fail) <;> ((conv => whnf); repeat' (refine Z rfl ?_; conv => whnf)))
 refine loop_upd tok {} [] (X := Nat) (fun i => [(13, iB i)]) (fun _ => []) [] (fun i => i ≤ xs.length ∧ xs.take i = ys.take i) (fun i => xs.length - i) 0 ?_
 ((conv => whnf); repeat' (refine Z rfl ?_; conv => whnf))
 refine And.intro ?_ ⟨⟨by omega, rfl⟩, fun i hΦ => ?_⟩
 · exact Kr
 obtain ⟨hi, hp⟩ := hΦ
 ((conv => whnf); repeat' (refine Z rfl ?_; conv => whnf))
 refine ⟨fun h1 => ?_, fun h1 => ?_⟩ <;> (try simp only [BL] at h1) <;> ((conv => whnf); repeat' (refine Z rfl ?_; conv => whnf))
 · have h1' : i < xs.length := by omega
   have h2' : i < ys.length := by omega
   repeat' ((first | (intro hlq; (try simp only [SL] at hlq)) | refine Ks ?_ | refine Kq ?_ | refine Kt ?_ | refine Ka ?_ | refine Kb ?_ | refine Kc (hd := rfl) (e := ?_) | refine Kc (hd := Cond.cells_eq _) (e := ?_) | refine Kd (e := ?_) | refine Kl rfl ?_ | fail) <;> ((conv => whnf); repeat' (refine Z rfl ?_; conv => whnf)))
   refine draw_rule tok (cf := {}) (by kernel_rfl) [.p 0, .p 1, .p 2, .p 3, .p 4, .p 5, .p 6, .p 7, .p 8] (by kernel_rfl) ?_
   ((conv => whnf); repeat' (refine Z rfl ?_; conv => whnf))
   repeat' ((first | (intro hlq; (try simp only [SL] at hlq)) | refine Ks ?_ | refine Kq ?_ | refine Kt ?_ | refine Ka ?_ | refine Kb ?_ | refine Kc (hd := rfl) (e := ?_) | refine Kc (hd := Wave.cells_eq _) (e := ?_) | refine Kd (e := ?_) | refine Kl rfl ?_ | fail) <;> ((conv => whnf); repeat' (refine Z rfl ?_; conv => whnf)))
   refine ⟨⟨⟨_, by simp [KScL, KSc], rfl⟩, ⟨_, by simp [KScL, KSc], rfl⟩⟩, ?_⟩
   ((conv => whnf); repeat' (refine Z rfl ?_; conv => whnf))
   repeat' ((first | (intro hlq; (try simp only [SL] at hlq)) | refine Ks ?_ | refine Kq ?_ | refine Kt ?_ | ((refine Kh (fun hb => ?_) fun hb => ?_) <;> (try simp only [BL] at hb)) | refine Ka ?_ | refine Kb ?_ | refine Kc (hd := rfl) (e := ?_) | refine Kc (hd := Cond.cells_eq _) (e := ?_) | refine Kd (e := ?_) | refine Kl rfl ?_ | fail) <;> ((conv => whnf); repeat' (refine Z rfl ?_; conv => whnf)))
   · exact ⟨congrArg bD (sameB_false (ne_at h1' h2' fun e => (by assumption : _ ≠ _) (Wave.c_iff.2 e))).symm⟩
   · refine ⟨⟨i + 1, ?_, ⟨by omega, take_eq_snoc h1' h2' hp (Wave.c_iff.1 (Classical.not_not.1 (by assumption)))⟩, by omega⟩⟩
     repeat' (first | exact True.intro | exact rfl | refine And.intro ?_ ?_)
 · exact ⟨congrArg bD (sameB_true (take_all (by omega) hl hp)).symm⟩
theorem eqs_off (xs ys : List Offence) : Meets Tryz.prog 52 [.sl (xs.map Offence.cells), .sl (ys.map Offence.cells)] fun d => d = bD (sameB xs ys) := by
 refine enter tok {} Tryz.func52 rfl (by kernel_rfl) Tryz.ntmps52 (by simp) fun B0 W0 V0 lent g0 => ?_
 ((conv => whnf); repeat' (refine Z rfl ?_; conv => whnf))
 repeat' ((first | (intro hlq; (try simp only [SL] at hlq)) | refine Ks ?_ | refine Kq ?_ | refine Kt ?_ | refine Ka ?_ | refine Kb ?_ | refine Kc (hd := rfl) (e := ?_) | refine Kc (hd := Cond.cells_eq _) (e := ?_) | refine Kd (e := ?_) | refine Kl rfl ?_ | fail) <;> ((conv => whnf); repeat' (refine Z rfl ?_; conv => whnf)))
 refine ⟨fun h0 => ?_, fun h0 => ?_⟩ <;> (try simp only [BL] at h0) <;> ((conv => whnf); repeat' (refine Z rfl ?_; conv => whnf))
 · exact ⟨congrArg bD (sameB_false (ne_len (by simpa using h0))).symm⟩
 have hl : xs.length = ys.length := by omega
 repeat' ((first | (intro hlq; (try simp only [SL] at hlq)) | refine Ks ?_ | refine Kq ?_ | refine Kt ?_ | refine Ka ?_ | refine Kb ?_ | refine Kc (hd := rfl) (e := ?_) | refine Kc (hd := Cond.cells_eq _) (e := ?_) | refine Kd (e := ?_) | refine Kl rfl ?_ | fail) <;> ((conv => whnf); repeat' (refine Z rfl ?_; conv => whnf)))
 refine loop_upd tok {} [] (X := Nat) (fun i => [(13, iB i)]) (fun _ => []) [] (fun i => i ≤ xs.length ∧ xs.take i = ys.take i) (fun i => xs.length - i) 0 ?_
 ((conv => whnf); repeat' (refine Z rfl ?_; conv => whnf))
 refine And.intro ?_ ⟨⟨by omega, rfl⟩, fun i hΦ => ?_⟩
 · exact Kr
 obtain ⟨hi, hp⟩ := hΦ
 ((conv => whnf); repeat' (refine Z rfl ?_; conv => whnf))
 refine ⟨fun h1 => ?_, fun h1 => ?_⟩ <;> (try simp only [BL] at h1) <;> ((conv => whnf); repeat' (refine Z rfl ?_; conv => whnf))
 · have h1' : i < xs.length := by omega
   have h2' : i < ys.length := by omega
   repeat' ((first | (intro hlq; (try simp only [SL] at hlq)) | refine Ks ?_ | refine Kq ?_ | refine Kt ?_ | refine Ka ?_ | refine Kb ?_ | refine Kc (hd := rfl) (e := ?_) | refine Kc (hd := Cond.cells_eq _) (e := ?_) | refine Kd (e := ?_) | refine Kl rfl ?_ | fail) <;> ((conv => whnf); repeat' (refine Z rfl ?_; conv => whnf)))
   refine draw_rule tok (cf := {}) (by kernel_rfl) [.p 0, .p 1, .p 2, .p 3, .p 4, .p 5, .p 6, .p 7, .p 8] (by kernel_rfl) ?_
   ((conv => whnf); repeat' (refine Z rfl ?_; conv => whnf))
   repeat' ((first | (intro hlq; (try simp only [SL] at hlq)) | refine Ks ?_ | refine Kq ?_ | refine Kt ?_ | refine Ka ?_ | refine Kb ?_ | refine Kc (hd := rfl) (e := ?_) | refine Kc (hd := Offence.cells_eq _) (e := ?_) | refine Kd (e := ?_) | refine Kl rfl ?_ | fail) <;> ((conv => whnf); repeat' (refine Z rfl ?_; conv => whnf)))
   refine ⟨⟨⟨_, by simp [KScL, KSc], rfl⟩, ⟨_, by simp [KScL, KSc], rfl⟩⟩, ?_⟩
   ((conv => whnf); repeat' (refine Z rfl ?_; conv => whnf))
   repeat' ((first | (intro hlq; (try simp only [SL] at hlq)) | refine Ks ?_ | refine Kq ?_ | refine Kt ?_ | ((refine Kh (fun hb => ?_) fun hb => ?_) <;> (try simp only [BL] at hb)) | refine Ka ?_ | refine Kb ?_ | refine Kc (hd := rfl) (e := ?_) | refine Kc (hd := Cond.cells_eq _) (e := ?_) | refine Kd (e := ?_) | refine Kl rfl ?_ | fail) <;> ((conv => whnf); repeat' (refine Z rfl ?_; conv => whnf)))
   · exact ⟨congrArg bD (sameB_false (ne_at h1' h2' fun e => (by assumption : _ ≠ _) (Offence.c_iff.2 e))).symm⟩
   · refine ⟨⟨i + 1, ?_, ⟨by omega, take_eq_snoc h1' h2' hp (Offence.c_iff.1 (Classical.not_not.1 (by assumption)))⟩, by omega⟩⟩
     repeat' (first | exact True.intro | exact rfl | refine And.intro ?_ ?_)
 · exact ⟨congrArg bD (sameB_true (take_all (by omega) hl hp)).symm⟩
theorem eqs_cat (xs ys : List Category) : Meets Tryz.prog 53 [.sl (xs.map Category.cells), .sl (ys.map Category.cells)] fun d => d = bD (sameB xs ys) := by
 refine enter tok {} Tryz.func53 rfl (by kernel_rfl) Tryz.ntmps53 (by simp) fun B0 W0 V0 lent g0 => ?_
 ((conv => whnf); repeat' (refine Z rfl ?_; conv => whnf))
 repeat' ((first | (intro hlq; (try simp only [SL] at hlq)) | refine Ks ?_ | refine Kq ?_ | refine Kt ?_ | refine Ka ?_ | refine Kb ?_ | refine Kc (hd := rfl) (e := ?_) | refine Kc (hd := Cond.cells_eq _) (e := ?_) | refine Kd (e := ?_) | refine Kl rfl ?_ | fail) <;> ((conv => whnf); repeat' (refine Z rfl ?_; conv => whnf)))
 refine ⟨fun h0 => ?_, fun h0 => ?_⟩ <;> (try simp only [BL] at h0) <;> ((conv => whnf); repeat' (refine Z rfl ?_; conv => whnf))
 · exact ⟨congrArg bD (sameB_false (ne_len (by simpa using h0))).symm⟩
 have hl : xs.length = ys.length := by omega
 repeat' ((first | (intro hlq; (try simp only [SL] at hlq)) | refine Ks ?_ | refine Kq ?_ | refine Kt ?_ | refine Ka ?_ | refine Kb ?_ | refine Kc (hd := rfl) (e := ?_) | refine Kc (hd := Cond.cells_eq _) (e := ?_) | refine Kd (e := ?_) | refine Kl rfl ?_ | fail) <;> ((conv => whnf); repeat' (refine Z rfl ?_; conv => whnf)))
 refine loop_upd tok {} [] (X := Nat) (fun i => [(13, iB i)]) (fun _ => []) [] (fun i => i ≤ xs.length ∧ xs.take i = ys.take i) (fun i => xs.length - i) 0 ?_
 ((conv => whnf); repeat' (refine Z rfl ?_; conv => whnf))
 refine And.intro ?_ ⟨⟨by omega, rfl⟩, fun i hΦ => ?_⟩
 · exact Kr
 obtain ⟨hi, hp⟩ := hΦ
 ((conv => whnf); repeat' (refine Z rfl ?_; conv => whnf))
 refine ⟨fun h1 => ?_, fun h1 => ?_⟩ <;> (try simp only [BL] at h1) <;> ((conv => whnf); repeat' (refine Z rfl ?_; conv => whnf))
 · have h1' : i < xs.length := by omega
   have h2' : i < ys.length := by omega
   repeat' ((first | (intro hlq; (try simp only [SL] at hlq)) | refine Ks ?_ | refine Kq ?_ | refine Kt ?_ | refine Ka ?_ | refine Kb ?_ | refine Kc (hd := rfl) (e := ?_) | refine Kc (hd := Cond.cells_eq _) (e := ?_) | refine Kd (e := ?_) | refine Kl rfl ?_ | fail) <;> ((conv => whnf); repeat' (refine Z rfl ?_; conv => whnf)))
   refine draw_rule tok (cf := {}) (by kernel_rfl) [.p 0, .p 1, .p 2, .p 3, .p 4, .p 5, .p 6, .p 7, .p 8] (by kernel_rfl) ?_
   ((conv => whnf); repeat' (refine Z rfl ?_; conv => whnf))
   repeat' ((first | (intro hlq; (try simp only [SL] at hlq)) | refine Ks ?_ | refine Kq ?_ | refine Kt ?_ | refine Ka ?_ | refine Kb ?_ | refine Kc (hd := rfl) (e := ?_) | refine Kc (hd := Category.cells_eq _) (e := ?_) | refine Kd (e := ?_) | refine Kl rfl ?_ | fail) <;> ((conv => whnf); repeat' (refine Z rfl ?_; conv => whnf)))
   refine ⟨⟨⟨_, by simp [KScL, KSc], rfl⟩, ⟨_, by simp [KScL, KSc], rfl⟩⟩, ?_⟩
   ((conv => whnf); repeat' (refine Z rfl ?_; conv => whnf))
   repeat' ((first | (intro hlq; (try simp only [SL] at hlq)) | refine Ks ?_ | refine Kq ?_ | refine Kt ?_ | ((refine Kh (fun hb => ?_) fun hb => ?_) <;> (try simp only [BL] at hb)) | refine Ka ?_ | refine Kb ?_ | refine Kc (hd := rfl) (e := ?_) | refine Kc (hd := Cond.cells_eq _) (e := ?_) | refine Kd (e := ?_) | refine Kl rfl ?_ | fail) <;> ((conv => whnf); repeat' (refine Z rfl ?_; conv => whnf)))
   · exact ⟨congrArg bD (sameB_false (ne_at h1' h2' fun e => (by assumption : _ ≠ _) (Category.c_iff.2 e))).symm⟩
   · refine ⟨⟨i + 1, ?_, ⟨by omega, take_eq_snoc h1' h2' hp (Category.c_iff.1 (Classical.not_not.1 (by assumption)))⟩, by omega⟩⟩
     repeat' (first | exact True.intro | exact rfl | refine And.intro ?_ ?_)
 · exact ⟨congrArg bD (sameB_true (take_all (by omega) hl hp)).symm⟩
theorem eqs_prize (xs ys : List Prize) : Meets Tryz.prog 54 [.sl (xs.map Prize.cells), .sl (ys.map Prize.cells)] fun d => d = bD (sameB xs ys) := by
 refine enter tok {} Tryz.func54 rfl (by kernel_rfl) Tryz.ntmps54 (by simp) fun B0 W0 V0 lent g0 => ?_
 ((conv => whnf); repeat' (refine Z rfl ?_; conv => whnf))
 repeat' ((first | (intro hlq; (try simp only [SL] at hlq)) | refine Ks ?_ | refine Kq ?_ | refine Kt ?_ | refine Ka ?_ | refine Kb ?_ | refine Kc (hd := rfl) (e := ?_) | refine Kc (hd := Cond.cells_eq _) (e := ?_) | refine Kd (e := ?_) | refine Kl rfl ?_ | fail) <;> ((conv => whnf); repeat' (refine Z rfl ?_; conv => whnf)))
 refine ⟨fun h0 => ?_, fun h0 => ?_⟩ <;> (try simp only [BL] at h0) <;> ((conv => whnf); repeat' (refine Z rfl ?_; conv => whnf))
 · exact ⟨congrArg bD (sameB_false (ne_len (by simpa using h0))).symm⟩
 have hl : xs.length = ys.length := by omega
 repeat' ((first | (intro hlq; (try simp only [SL] at hlq)) | refine Ks ?_ | refine Kq ?_ | refine Kt ?_ | refine Ka ?_ | refine Kb ?_ | refine Kc (hd := rfl) (e := ?_) | refine Kc (hd := Cond.cells_eq _) (e := ?_) | refine Kd (e := ?_) | refine Kl rfl ?_ | fail) <;> ((conv => whnf); repeat' (refine Z rfl ?_; conv => whnf)))
 refine loop_upd tok {} [] (X := Nat) (fun i => [(13, iB i)]) (fun _ => []) [] (fun i => i ≤ xs.length ∧ xs.take i = ys.take i) (fun i => xs.length - i) 0 ?_
 ((conv => whnf); repeat' (refine Z rfl ?_; conv => whnf))
 refine And.intro ?_ ⟨⟨by omega, rfl⟩, fun i hΦ => ?_⟩
 · exact Kr
 obtain ⟨hi, hp⟩ := hΦ
 ((conv => whnf); repeat' (refine Z rfl ?_; conv => whnf))
 refine ⟨fun h1 => ?_, fun h1 => ?_⟩ <;> (try simp only [BL] at h1) <;> ((conv => whnf); repeat' (refine Z rfl ?_; conv => whnf))
 · have h1' : i < xs.length := by omega
   have h2' : i < ys.length := by omega
   repeat' ((first | (intro hlq; (try simp only [SL] at hlq)) | refine Ks ?_ | refine Kq ?_ | refine Kt ?_ | refine Ka ?_ | refine Kb ?_ | refine Kc (hd := rfl) (e := ?_) | refine Kc (hd := Cond.cells_eq _) (e := ?_) | refine Kd (e := ?_) | refine Kl rfl ?_ | fail) <;> ((conv => whnf); repeat' (refine Z rfl ?_; conv => whnf)))
   refine draw_rule tok (cf := {}) (by kernel_rfl) [.p 0, .p 1, .p 2, .p 3, .p 4, .p 5, .p 6, .p 7, .p 8] (by kernel_rfl) ?_
   ((conv => whnf); repeat' (refine Z rfl ?_; conv => whnf))
   repeat' ((first | (intro hlq; (try simp only [SL] at hlq)) | refine Ks ?_ | refine Kq ?_ | refine Kt ?_ | refine Ka ?_ | refine Kb ?_ | refine Kc (hd := rfl) (e := ?_) | refine Kc (hd := Prize.cells_eq _) (e := ?_) | refine Kd (e := ?_) | refine Kl rfl ?_ | fail) <;> ((conv => whnf); repeat' (refine Z rfl ?_; conv => whnf)))
   refine ⟨⟨⟨[xs[i].distance, xs[i].category, xs[i].rank, xs[i].amount], rfl, rfl⟩, ⟨[ys[i].distance, ys[i].category, ys[i].rank, ys[i].amount], rfl, rfl⟩⟩, ?_⟩
   ((conv => whnf); repeat' (refine Z rfl ?_; conv => whnf))
   repeat' ((first | (intro hlq; (try simp only [SL] at hlq)) | refine Ks ?_ | refine Kq ?_ | refine Kt ?_ | ((refine Kh (fun hb => ?_) fun hb => ?_) <;> (try simp only [BL] at hb)) | refine Ka ?_ | refine Kb ?_ | refine Kc (hd := rfl) (e := ?_) | refine Kc (hd := Cond.cells_eq _) (e := ?_) | refine Kd (e := ?_) | refine Kl rfl ?_ | fail) <;> ((conv => whnf); repeat' (refine Z rfl ?_; conv => whnf)))
   · exact ⟨congrArg bD (sameB_false (ne_at h1' h2' fun e => (by assumption : _ ≠ _) (Prize.c_iff.2 e))).symm⟩
   · refine ⟨⟨i + 1, ?_, ⟨by omega, take_eq_snoc h1' h2' hp (Prize.c_iff.1 (Classical.not_not.1 (by assumption)))⟩, by omega⟩⟩
     repeat' (first | exact True.intro | exact rfl | refine And.intro ?_ ?_)
 · exact ⟨congrArg bD (sameB_true (take_all (by omega) hl hp)).symm⟩
theorem eqs_cut (xs ys : List Cutoff) : Meets Tryz.prog 91 [.sl (xs.map Cutoff.cells), .sl (ys.map Cutoff.cells)] fun d => d = bD (sameB xs ys) := by
 refine enter tok {} Tryz.func91 rfl (by kernel_rfl) Tryz.ntmps91 (by simp) fun B0 W0 V0 lent g0 => ?_
 ((conv => whnf); repeat' (refine Z rfl ?_; conv => whnf))
 repeat' ((first | (intro hlq; (try simp only [SL] at hlq)) | refine Ks ?_ | refine Kq ?_ | refine Kt ?_ | refine Ka ?_ | refine Kb ?_ | refine Kc (hd := rfl) (e := ?_) | refine Kc (hd := Cond.cells_eq _) (e := ?_) | refine Kd (e := ?_) | refine Kl rfl ?_ | fail) <;> ((conv => whnf); repeat' (refine Z rfl ?_; conv => whnf)))
 refine ⟨fun h0 => ?_, fun h0 => ?_⟩ <;> (try simp only [BL] at h0) <;> ((conv => whnf); repeat' (refine Z rfl ?_; conv => whnf))
 · exact ⟨congrArg bD (sameB_false (ne_len (by simpa using h0))).symm⟩
 have hl : xs.length = ys.length := by omega
 repeat' ((first | (intro hlq; (try simp only [SL] at hlq)) | refine Ks ?_ | refine Kq ?_ | refine Kt ?_ | refine Ka ?_ | refine Kb ?_ | refine Kc (hd := rfl) (e := ?_) | refine Kc (hd := Cond.cells_eq _) (e := ?_) | refine Kd (e := ?_) | refine Kl rfl ?_ | fail) <;> ((conv => whnf); repeat' (refine Z rfl ?_; conv => whnf)))
 refine loop_upd tok {} [] (X := Nat) (fun i => [(13, iB i)]) (fun _ => []) [] (fun i => i ≤ xs.length ∧ xs.take i = ys.take i) (fun i => xs.length - i) 0 ?_
 ((conv => whnf); repeat' (refine Z rfl ?_; conv => whnf))
 refine And.intro ?_ ⟨⟨by omega, rfl⟩, fun i hΦ => ?_⟩
 · exact Kr
 obtain ⟨hi, hp⟩ := hΦ
 ((conv => whnf); repeat' (refine Z rfl ?_; conv => whnf))
 refine ⟨fun h1 => ?_, fun h1 => ?_⟩ <;> (try simp only [BL] at h1) <;> ((conv => whnf); repeat' (refine Z rfl ?_; conv => whnf))
 · have h1' : i < xs.length := by omega
   have h2' : i < ys.length := by omega
   repeat' ((first | (intro hlq; (try simp only [SL] at hlq)) | refine Ks ?_ | refine Kq ?_ | refine Kt ?_ | refine Ka ?_ | refine Kb ?_ | refine Kc (hd := rfl) (e := ?_) | refine Kc (hd := Cond.cells_eq _) (e := ?_) | refine Kd (e := ?_) | refine Kl rfl ?_ | fail) <;> ((conv => whnf); repeat' (refine Z rfl ?_; conv => whnf)))
   refine draw_rule tok (cf := {}) (by kernel_rfl) [.p 0, .p 1, .p 2, .p 3, .p 4, .p 5, .p 6, .p 7, .p 8] (by kernel_rfl) ?_
   ((conv => whnf); repeat' (refine Z rfl ?_; conv => whnf))
   repeat' ((first | (intro hlq; (try simp only [SL] at hlq)) | refine Ks ?_ | refine Kq ?_ | refine Kt ?_ | refine Ka ?_ | refine Kb ?_ | refine Kc (hd := rfl) (e := ?_) | refine Kc (hd := Cutoff.cells_eq _) (e := ?_) | refine Kd (e := ?_) | refine Kl rfl ?_ | fail) <;> ((conv => whnf); repeat' (refine Z rfl ?_; conv => whnf)))
   refine ⟨⟨⟨[xs[i].mat, xs[i].lap, xs[i].limit], rfl, rfl⟩, ⟨[ys[i].mat, ys[i].lap, ys[i].limit], rfl, rfl⟩⟩, ?_⟩
   ((conv => whnf); repeat' (refine Z rfl ?_; conv => whnf))
   repeat' ((first | (intro hlq; (try simp only [SL] at hlq)) | refine Ks ?_ | refine Kq ?_ | refine Kt ?_ | ((refine Kh (fun hb => ?_) fun hb => ?_) <;> (try simp only [BL] at hb)) | refine Ka ?_ | refine Kb ?_ | refine Kc (hd := rfl) (e := ?_) | refine Kc (hd := Cond.cells_eq _) (e := ?_) | refine Kd (e := ?_) | refine Kl rfl ?_ | fail) <;> ((conv => whnf); repeat' (refine Z rfl ?_; conv => whnf)))
   · exact ⟨congrArg bD (sameB_false (ne_at h1' h2' fun e => (by assumption : _ ≠ _) (Cutoff.c_iff.2 e))).symm⟩
   · refine ⟨⟨i + 1, ?_, ⟨by omega, take_eq_snoc h1' h2' hp (Cutoff.c_iff.1 (Classical.not_not.1 (by assumption)))⟩, by omega⟩⟩
     repeat' (first | exact True.intro | exact rfl | refine And.intro ?_ ?_)
 · exact ⟨congrArg bD (sameB_true (take_all (by omega) hl hp)).symm⟩
theorem eqf_dist (xs ys : List Distance) (G : Nat) (h : ∀ x ∈ xs, ∀ y, Meets Tryz.prog G [x.d, y.d] fun d => d = bD (sameB x y)) : Meets Tryz.prog 49 [.sl (xs.map Distance.cells), .sl (ys.map Distance.cells), .fn G [] []] fun d => d = bD (sameB xs ys) := by
 refine enter tok {} Tryz.func49 rfl (by kernel_rfl) Tryz.ntmps49 (by simp) fun B0 W0 V0 lent g0 => ?_
 ((conv => whnf); repeat' (refine Z rfl ?_; conv => whnf))
 repeat' ((first | (intro hlq; (try simp only [SL] at hlq)) | refine Ks ?_ | refine Kq ?_ | refine Kt ?_ | refine Ka ?_ | refine Kb ?_ | refine Kc (hd := rfl) (e := ?_) | refine Kc (hd := Cond.cells_eq _) (e := ?_) | refine Kd (e := ?_) | refine Kl rfl ?_ | fail) <;> ((conv => whnf); repeat' (refine Z rfl ?_; conv => whnf)))
 refine ⟨fun h0 => ?_, fun h0 => ?_⟩ <;> (try simp only [BL] at h0) <;> ((conv => whnf); repeat' (refine Z rfl ?_; conv => whnf))
 · exact ⟨congrArg bD (sameB_false (ne_len (by simpa using h0))).symm⟩
 have hl : xs.length = ys.length := by omega
 repeat' ((first | (intro hlq; (try simp only [SL] at hlq)) | refine Ks ?_ | refine Kq ?_ | refine Kt ?_ | refine Ka ?_ | refine Kb ?_ | refine Kc (hd := rfl) (e := ?_) | refine Kc (hd := Cond.cells_eq _) (e := ?_) | refine Kd (e := ?_) | refine Kl rfl ?_ | fail) <;> ((conv => whnf); repeat' (refine Z rfl ?_; conv => whnf)))
 refine loop_upd tok {} [] (X := Nat) (fun i => [(17, iB i)]) (fun _ => []) [8, 9] (fun i => i ≤ xs.length ∧ xs.take i = ys.take i) (fun i => xs.length - i) 0 ?_
 ((conv => whnf); repeat' (refine Z rfl ?_; conv => whnf))
 refine And.intro ?_ ⟨⟨by omega, rfl⟩, fun i hΦ => ?_⟩
 · exact Kr
 obtain ⟨hi, hp⟩ := hΦ
 ((conv => whnf); repeat' (refine Z rfl ?_; conv => whnf))
 refine ⟨fun h1 => ?_, fun h1 => ?_⟩ <;> (try simp only [BL] at h1) <;> ((conv => whnf); repeat' (refine Z rfl ?_; conv => whnf))
 · have h1' : i < xs.length := by omega
   have h2' : i < ys.length := by omega
   repeat' ((first | (intro hlq; (try simp only [SL] at hlq)) | refine Meets.k (h xs[i] (List.getElem_mem h1') ys[i]) ?_ | refine Ks ?_ | refine Kq ?_ | refine Kt ?_ | ((refine Kh (fun hb => ?_) fun hb => ?_) <;> (try simp only [BL] at hb)) | refine Ka ?_ | refine Kb ?_ | refine Kc (hd := rfl) (e := ?_) | refine Kc (hd := Distance.cells_eq _) (e := ?_) | refine Kd (e := ?_) | refine Kl rfl ?_ | fail) <;> ((conv => whnf); repeat' (refine Z rfl ?_; conv => whnf)))
   · exact ⟨congrArg bD (sameB_false (ne_at h1' h2' (sameB_niff.1 (by assumption)))).symm⟩
   · refine ⟨⟨i + 1, ?_, ⟨by omega, take_eq_snoc h1' h2' hp (sameB_iff.1 (by assumption))⟩, by omega⟩⟩
     repeat' (first | exact True.intro | exact rfl | refine And.intro ?_ ?_)
 · exact ⟨congrArg bD (sameB_true (take_all (by omega) hl hp)).symm⟩
theorem eqf_step (xs ys : List Step) (G : Nat) (h : ∀ x ∈ xs, ∀ y, Meets Tryz.prog G [x.d, y.d] fun d => d = bD (sameB x y)) : Meets Tryz.prog 55 [.sl (xs.map Step.cells), .sl (ys.map Step.cells), .fn G [] []] fun d => d = bD (sameB xs ys) := by
 refine enter tok {} Tryz.func55 rfl (by kernel_rfl) Tryz.ntmps55 (by simp) fun B0 W0 V0 lent g0 => ?_
 ((conv => whnf); repeat' (refine Z rfl ?_; conv => whnf))
 repeat' ((first | (intro hlq; (try simp only [SL] at hlq)) | refine Ks ?_ | refine Kq ?_ | refine Kt ?_ | refine Ka ?_ | refine Kb ?_ | refine Kc (hd := rfl) (e := ?_) | refine Kc (hd := Cond.cells_eq _) (e := ?_) | refine Kd (e := ?_) | refine Kl rfl ?_ | fail) <;> ((conv => whnf); repeat' (refine Z rfl ?_; conv => whnf)))
 refine ⟨fun h0 => ?_, fun h0 => ?_⟩ <;> (try simp only [BL] at h0) <;> ((conv => whnf); repeat' (refine Z rfl ?_; conv => whnf))
 · exact ⟨congrArg bD (sameB_false (ne_len (by simpa using h0))).symm⟩
 have hl : xs.length = ys.length := by omega
 repeat' ((first | (intro hlq; (try simp only [SL] at hlq)) | refine Ks ?_ | refine Kq ?_ | refine Kt ?_ | refine Ka ?_ | refine Kb ?_ | refine Kc (hd := rfl) (e := ?_) | refine Kc (hd := Cond.cells_eq _) (e := ?_) | refine Kd (e := ?_) | refine Kl rfl ?_ | fail) <;> ((conv => whnf); repeat' (refine Z rfl ?_; conv => whnf)))
 refine loop_upd tok {} [] (X := Nat) (fun i => [(17, iB i)]) (fun _ => []) [8, 9] (fun i => i ≤ xs.length ∧ xs.take i = ys.take i) (fun i => xs.length - i) 0 ?_
 ((conv => whnf); repeat' (refine Z rfl ?_; conv => whnf))
 refine And.intro ?_ ⟨⟨by omega, rfl⟩, fun i hΦ => ?_⟩
 · exact Kr
 obtain ⟨hi, hp⟩ := hΦ
 ((conv => whnf); repeat' (refine Z rfl ?_; conv => whnf))
 refine ⟨fun h1 => ?_, fun h1 => ?_⟩ <;> (try simp only [BL] at h1) <;> ((conv => whnf); repeat' (refine Z rfl ?_; conv => whnf))
 · have h1' : i < xs.length := by omega
   have h2' : i < ys.length := by omega
   repeat' ((first | (intro hlq; (try simp only [SL] at hlq)) | refine Meets.k (h xs[i] (List.getElem_mem h1') ys[i]) ?_ | refine Ks ?_ | refine Kq ?_ | refine Kt ?_ | ((refine Kh (fun hb => ?_) fun hb => ?_) <;> (try simp only [BL] at hb)) | refine Ka ?_ | refine Kb ?_ | refine Kc (hd := rfl) (e := ?_) | refine Kc (hd := Step.cells_eq _) (e := ?_) | refine Kd (e := ?_) | refine Kl rfl ?_ | fail) <;> ((conv => whnf); repeat' (refine Z rfl ?_; conv => whnf)))
   · exact ⟨congrArg bD (sameB_false (ne_at h1' h2' (sameB_niff.1 (by assumption)))).symm⟩
   · refine ⟨⟨i + 1, ?_, ⟨by omega, take_eq_snoc h1' h2' hp (sameB_iff.1 (by assumption))⟩, by omega⟩⟩
     repeat' (first | exact True.intro | exact rfl | refine And.intro ?_ ?_)
 · exact ⟨congrArg bD (sameB_true (take_all (by omega) hl hp)).symm⟩
theorem eqf_part (xs ys : List Part) (G : Nat) (h : ∀ x ∈ xs, ∀ y, Meets Tryz.prog G [x.d, y.d] fun d => d = bD (sameB x y)) : Meets Tryz.prog 92 [.sl (xs.map Part.cells), .sl (ys.map Part.cells), .fn G [] []] fun d => d = bD (sameB xs ys) := by
 refine enter tok {} Tryz.func92 rfl (by kernel_rfl) Tryz.ntmps92 (by simp) fun B0 W0 V0 lent g0 => ?_
 ((conv => whnf); repeat' (refine Z rfl ?_; conv => whnf))
 repeat' ((first | (intro hlq; (try simp only [SL] at hlq)) | refine Ks ?_ | refine Kq ?_ | refine Kt ?_ | refine Ka ?_ | refine Kb ?_ | refine Kc (hd := rfl) (e := ?_) | refine Kc (hd := Cond.cells_eq _) (e := ?_) | refine Kd (e := ?_) | refine Kl rfl ?_ | fail) <;> ((conv => whnf); repeat' (refine Z rfl ?_; conv => whnf)))
 refine ⟨fun h0 => ?_, fun h0 => ?_⟩ <;> (try simp only [BL] at h0) <;> ((conv => whnf); repeat' (refine Z rfl ?_; conv => whnf))
 · exact ⟨congrArg bD (sameB_false (ne_len (by simpa using h0))).symm⟩
 have hl : xs.length = ys.length := by omega
 repeat' ((first | (intro hlq; (try simp only [SL] at hlq)) | refine Ks ?_ | refine Kq ?_ | refine Kt ?_ | refine Ka ?_ | refine Kb ?_ | refine Kc (hd := rfl) (e := ?_) | refine Kc (hd := Cond.cells_eq _) (e := ?_) | refine Kd (e := ?_) | refine Kl rfl ?_ | fail) <;> ((conv => whnf); repeat' (refine Z rfl ?_; conv => whnf)))
 refine loop_upd tok {} [] (X := Nat) (fun i => [(17, iB i)]) (fun _ => []) [8, 9] (fun i => i ≤ xs.length ∧ xs.take i = ys.take i) (fun i => xs.length - i) 0 ?_
 ((conv => whnf); repeat' (refine Z rfl ?_; conv => whnf))
 refine And.intro ?_ ⟨⟨by omega, rfl⟩, fun i hΦ => ?_⟩
 · exact Kr
 obtain ⟨hi, hp⟩ := hΦ
 ((conv => whnf); repeat' (refine Z rfl ?_; conv => whnf))
 refine ⟨fun h1 => ?_, fun h1 => ?_⟩ <;> (try simp only [BL] at h1) <;> ((conv => whnf); repeat' (refine Z rfl ?_; conv => whnf))
 · have h1' : i < xs.length := by omega
   have h2' : i < ys.length := by omega
   repeat' ((first | (intro hlq; (try simp only [SL] at hlq)) | refine Meets.k (h xs[i] (List.getElem_mem h1') ys[i]) ?_ | refine Ks ?_ | refine Kq ?_ | refine Kt ?_ | ((refine Kh (fun hb => ?_) fun hb => ?_) <;> (try simp only [BL] at hb)) | refine Ka ?_ | refine Kb ?_ | refine Kc (hd := rfl) (e := ?_) | refine Kc (hd := Part.cells_eq _) (e := ?_) | refine Kd (e := ?_) | refine Kl rfl ?_ | fail) <;> ((conv => whnf); repeat' (refine Z rfl ?_; conv => whnf)))
   · exact ⟨congrArg bD (sameB_false (ne_at h1' h2' (sameB_niff.1 (by assumption)))).symm⟩
   · refine ⟨⟨i + 1, ?_, ⟨by omega, take_eq_snoc h1' h2' hp (sameB_iff.1 (by assumption))⟩, by omega⟩⟩
     repeat' (first | exact True.intro | exact rfl | refine And.intro ?_ ?_)
 · exact ⟨congrArg bD (sameB_true (take_all (by omega) hl hp)).symm⟩
theorem eqf_cond (xs ys : List Cond) (G : Nat) (h : ∀ x ∈ xs, ∀ y, Meets Tryz.prog G [x.d, y.d] fun d => d = bD (sameB x y)) : Meets Tryz.prog 154 [.sl (xs.map Cond.cells), .sl (ys.map Cond.cells), .fn G [] []] fun d => d = bD (sameB xs ys) := by
 refine enter tok {} Tryz.func154 rfl (by kernel_rfl) Tryz.ntmps154 (by simp) fun B0 W0 V0 lent g0 => ?_
 ((conv => whnf); repeat' (refine Z rfl ?_; conv => whnf))
 repeat' ((first | (intro hlq; (try simp only [SL] at hlq)) | refine Ks ?_ | refine Kq ?_ | refine Kt ?_ | refine Ka ?_ | refine Kb ?_ | refine Kc (hd := rfl) (e := ?_) | refine Kc (hd := Cond.cells_eq _) (e := ?_) | refine Kd (e := ?_) | refine Kl rfl ?_ | fail) <;> ((conv => whnf); repeat' (refine Z rfl ?_; conv => whnf)))
 refine ⟨fun h0 => ?_, fun h0 => ?_⟩ <;> (try simp only [BL] at h0) <;> ((conv => whnf); repeat' (refine Z rfl ?_; conv => whnf))
 · exact ⟨congrArg bD (sameB_false (ne_len (by simpa using h0))).symm⟩
 have hl : xs.length = ys.length := by omega
 repeat' ((first | (intro hlq; (try simp only [SL] at hlq)) | refine Ks ?_ | refine Kq ?_ | refine Kt ?_ | refine Ka ?_ | refine Kb ?_ | refine Kc (hd := rfl) (e := ?_) | refine Kc (hd := Cond.cells_eq _) (e := ?_) | refine Kd (e := ?_) | refine Kl rfl ?_ | fail) <;> ((conv => whnf); repeat' (refine Z rfl ?_; conv => whnf)))
 refine loop_upd tok {} [] (X := Nat) (fun i => [(17, iB i)]) (fun _ => []) [8, 9] (fun i => i ≤ xs.length ∧ xs.take i = ys.take i) (fun i => xs.length - i) 0 ?_
 ((conv => whnf); repeat' (refine Z rfl ?_; conv => whnf))
 refine And.intro ?_ ⟨⟨by omega, rfl⟩, fun i hΦ => ?_⟩
 · exact Kr
 obtain ⟨hi, hp⟩ := hΦ
 ((conv => whnf); repeat' (refine Z rfl ?_; conv => whnf))
 refine ⟨fun h1 => ?_, fun h1 => ?_⟩ <;> (try simp only [BL] at h1) <;> ((conv => whnf); repeat' (refine Z rfl ?_; conv => whnf))
 · have h1' : i < xs.length := by omega
   have h2' : i < ys.length := by omega
   repeat' ((first | (intro hlq; (try simp only [SL] at hlq)) | refine Meets.k (h xs[i] (List.getElem_mem h1') ys[i]) ?_ | refine Ks ?_ | refine Kq ?_ | refine Kt ?_ | ((refine Kh (fun hb => ?_) fun hb => ?_) <;> (try simp only [BL] at hb)) | refine Ka ?_ | refine Kb ?_ | refine Kc (hd := rfl) (e := ?_) | refine Kc (hd := Cond.cells_eq _) (e := ?_) | refine Kd (e := ?_) | refine Kl rfl ?_ | fail) <;> ((conv => whnf); repeat' (refine Z rfl ?_; conv => whnf)))
   · exact ⟨congrArg bD (sameB_false (ne_at h1' h2' (sameB_niff.1 (by assumption)))).symm⟩
   · refine ⟨⟨i + 1, ?_, ⟨by omega, take_eq_snoc h1' h2' hp (sameB_iff.1 (by assumption))⟩, by omega⟩⟩
     repeat' (first | exact True.intro | exact rfl | refine And.intro ?_ ?_)
 · exact ⟨congrArg bD (sameB_true (take_all (by omega) hl hp)).symm⟩
theorem fsameCond_meets (a b : Cond) : Meets Tryz.prog 94 [a.d, b.d] fun d => d = bD (sameB a b) := by
 have hp : Meets Tryz.prog 154 [.sl (a.parts.map Cond.cells), .sl (b.parts.map Cond.cells), .fn 94 [] []] fun d => d = bD (sameB a.parts b.parts) := eqf_cond a.parts b.parts 94 fun x hx y => by
  have := Cond.size_part hx
  exact fsameCond_meets x y
 refine enter tok {} Tryz.func94 rfl (by kernel_rfl) Tryz.ntmps94 (by simp) fun B0 W0 V0 lent g0 => ?_
 ((conv => whnf); repeat' (refine Z rfl ?_; conv => whnf))
 repeat' ((first | (intro hlq; (try simp only [SL] at hlq)) | refine Meets.k (hp) ?_ | refine Ks ?_ | refine Kq ?_ | refine Kt ?_ | ((refine Kh (fun hb => ?_) fun hb => ?_) <;> (try simp only [BL] at hb)) | refine Ka ?_ | refine Kb ?_ | refine Kc (hd := rfl) (e := ?_) | refine Kc (hd := Cond.cells_eq _) (e := ?_) | refine Kd (e := ?_) | refine Kl rfl ?_ | fail) <;> ((conv => whnf); repeat' (refine Z rfl ?_; conv => whnf)))
 all_goals
  refine ⟨congrArg bD ?_⟩
  try clear hp
  try clear hq
  try clear h1 h2
  try simp only [sameB_iff, sameB_niff] at *
  first
   | exact (sameB_false (fun e => by rw [Cond.e_iff] at e; simp_all)).symm
   | (rw [Bool.eq_iff_iff, sameB_iff, sameB_iff, Cond.e_iff]; simp [*])
termination_by SizeOf.sizeOf a
decreasing_by assumption
theorem fsamePart_meets (a b : Part) : Meets Tryz.prog 93 [a.d, b.d] fun d => d = bD (sameB a b) := by
 have hp : Meets Tryz.prog 92 [.sl (a.parts.map Part.cells), .sl (b.parts.map Part.cells), .fn 93 [] []] fun d => d = bD (sameB a.parts b.parts) := eqf_part a.parts b.parts 93 fun x hx y => by
  have := Part.size_part hx
  exact fsamePart_meets x y
 refine enter tok {} Tryz.func93 rfl (by kernel_rfl) Tryz.ntmps93 (by simp) fun B0 W0 V0 lent g0 => ?_
 ((conv => whnf); repeat' (refine Z rfl ?_; conv => whnf))
 repeat' ((first | (intro hlq; (try simp only [SL] at hlq)) | refine Meets.k (hp) ?_ | refine Ks ?_ | refine Kq ?_ | refine Kt ?_ | ((refine Kh (fun hb => ?_) fun hb => ?_) <;> (try simp only [BL] at hb)) | refine Ka ?_ | refine Kb ?_ | refine Kc (hd := rfl) (e := ?_) | refine Kc (hd := Cond.cells_eq _) (e := ?_) | refine Kd (e := ?_) | refine Kl rfl ?_ | fail) <;> ((conv => whnf); repeat' (refine Z rfl ?_; conv => whnf)))
 all_goals
  refine ⟨congrArg bD ?_⟩
  try clear hp
  try clear hq
  try clear h1 h2
  try simp only [sameB_iff, sameB_niff] at *
  first
   | exact (sameB_false (fun e => by rw [Part.e_iff] at e; simp_all)).symm
   | (rw [Bool.eq_iff_iff, sameB_iff, sameB_iff, Part.e_iff]; simp [*])
termination_by SizeOf.sizeOf a
decreasing_by assumption
theorem fsameStep_meets (a b : Step) : Meets Tryz.prog 56 [a.d, b.d] fun d => d = bD (sameB a b) := by
 have hp : Meets Tryz.prog 55 [.sl (a.th.map Step.cells), .sl (b.th.map Step.cells), .fn 56 [] []] fun d => d = bD (sameB a.th b.th) := eqf_step a.th b.th 56 fun x hx y => by
  have := Step.size_th hx
  exact fsameStep_meets x y
 have hq : Meets Tryz.prog 55 [.sl (a.el.map Step.cells), .sl (b.el.map Step.cells), .fn 56 [] []] fun d => d = bD (sameB a.el b.el) := eqf_step a.el b.el 56 fun x hx y => by
  have := Step.size_el hx
  exact fsameStep_meets x y
 refine enter tok {} Tryz.func56 rfl (by kernel_rfl) Tryz.ntmps56 (by simp) fun B0 W0 V0 lent g0 => ?_
 ((conv => whnf); repeat' (refine Z rfl ?_; conv => whnf))
 repeat' ((first | (intro hlq; (try simp only [SL] at hlq)) | refine Meets.k (fsameCond_meets a.cond b.cond) ?_ | refine Meets.k (hp) ?_ | refine Meets.k (hq) ?_ | refine Ks ?_ | refine Kq ?_ | refine Kt ?_ | ((refine Kh (fun hb => ?_) fun hb => ?_) <;> (try simp only [BL] at hb)) | refine Ka ?_ | refine Kb ?_ | refine Kc (hd := rfl) (e := ?_) | refine Kc (hd := Cond.cells_eq _) (e := ?_) | refine Kd (e := ?_) | refine Kl rfl ?_ | fail) <;> ((conv => whnf); repeat' (refine Z rfl ?_; conv => whnf)))
 all_goals
  refine ⟨congrArg bD ?_⟩
  try clear hp
  try clear hq
  try clear h1 h2
  try simp only [sameB_iff, sameB_niff] at *
  first
   | exact (sameB_false (fun e => by rw [Step.e_iff] at e; simp_all)).symm
   | (rw [Bool.eq_iff_iff, sameB_iff, sameB_iff, Step.e_iff]; simp [*])
termination_by SizeOf.sizeOf a
decreasing_by all_goals assumption
theorem fsameDist_meets (a b : Distance) : Meets Tryz.prog 50 [a.d, b.d] fun d => d = bD (sameB a b) := by
 have hp : Meets Tryz.prog 92 [.sl (a.route.map Part.cells), .sl (b.route.map Part.cells), .fn 93 [] []] fun d => d = bD (sameB a.route b.route) := eqf_part a.route b.route 93 fun x hx y => fsamePart_meets x y
 refine enter tok {} Tryz.func50 rfl (by kernel_rfl) Tryz.ntmps50 (by simp) fun B0 W0 V0 lent g0 => ?_
 ((conv => whnf); repeat' (refine Z rfl ?_; conv => whnf))
 repeat' ((first | (intro hlq; (try simp only [SL] at hlq)) | refine Meets.k (eqs_cut a.cutoffs b.cutoffs) ?_ | refine Meets.k (hp) ?_ | refine Ks ?_ | refine Kq ?_ | refine Kt ?_ | ((refine Kh (fun hb => ?_) fun hb => ?_) <;> (try simp only [BL] at hb)) | refine Ka ?_ | refine Kb ?_ | refine Kc (hd := rfl) (e := ?_) | refine Kc (hd := Cond.cells_eq _) (e := ?_) | refine Kd (e := ?_) | refine Kl rfl ?_ | fail) <;> ((conv => whnf); repeat' (refine Z rfl ?_; conv => whnf)))
 all_goals
  refine ⟨congrArg bD ?_⟩
  try clear hp
  try clear hq
  try clear h1 h2
  try simp only [sameB_iff, sameB_niff] at *
  first
   | exact (sameB_false (fun e => by rw [Distance.e_iff] at e; simp_all)).symm
   | (rw [Bool.eq_iff_iff, sameB_iff, sameB_iff, Distance.e_iff]; simp [*])
theorem Same_meets8 (a b : Course) : Meets Tryz.prog 18 [a.d, b.d] fun d => d = bD (sameB a b) := by
 have h1 := eqf_dist a.distances b.distances 50 fun x _ y => fsameDist_meets x y
 have h2 := eqf_step a.ties b.ties 56 fun x _ y => fsameStep_meets x y
 refine enter tok {} Tryz.func18 rfl (by kernel_rfl) Tryz.ntmps18 (by simp) fun B0 W0 V0 lent g0 => ?_
 ((conv => whnf); repeat' (refine Z rfl ?_; conv => whnf))
 repeat' ((first | (intro hlq; (try simp only [SL] at hlq)) | refine Meets.k (eqs_mat a.mats b.mats) ?_ | refine Meets.k (eqs_leg a.legs b.legs) ?_ | refine Meets.k (h1) ?_ | refine Meets.k (eqs_wave a.waves b.waves) ?_ | refine Meets.k (eqs_off a.offences b.offences) ?_ | refine Meets.k (eqs_cat a.categories b.categories) ?_ | refine Meets.k (eqs_prize a.prizes b.prizes) ?_ | refine Meets.k (h2) ?_ | refine ⟨⟨⟨[a.faults.misses, a.faults.strays, a.faults.window, a.faults.residual, a.faults.drift], rfl, rfl⟩, ⟨[b.faults.misses, b.faults.strays, b.faults.window, b.faults.residual, b.faults.drift], rfl, rfl⟩⟩, ?_⟩ | refine Ks ?_ | refine Kq ?_ | refine Kt ?_ | ((refine Kh (fun hb => ?_) fun hb => ?_) <;> (try simp only [BL] at hb)) | refine Ka ?_ | refine Kb ?_ | refine Kc (hd := rfl) (e := ?_) | refine Kc (hd := Cond.cells_eq _) (e := ?_) | refine Kd (e := ?_) | refine Kl rfl ?_ | fail) <;> ((conv => whnf); repeat' (refine Z rfl ?_; conv => whnf)))
 all_goals
  refine ⟨congrArg bD ?_⟩
  try clear hp
  try clear hq
  try clear h1 h2
  try simp only [sameB_iff, sameB_niff] at *
  first
   | exact (sameB_false (fun e => by rw [Course.e_iff, Faults.e_iff] at e; simp_all)).symm
   | (rw [Bool.eq_iff_iff, sameB_iff, sameB_iff, Course.e_iff, Faults.e_iff]; simp [*])
end Go.Proofs.YteckbkljaneppaaGreatDoor.Dx
