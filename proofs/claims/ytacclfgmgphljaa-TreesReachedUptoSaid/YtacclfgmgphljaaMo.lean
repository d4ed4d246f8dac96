/- Env; the reference's size, steps, Ties. -/
import Derived.Test.YtacclfgmgphljaaMn
set_option linter.all false
namespace Go.Proofs.Ytacclfgmgphljaa.Dx
open Go Go.RowKit
set_option maxRecDepth 100000
set_option maxHeartbeats 8000000
def Env.good (x : Env) : Bool := inR 0 7 x.distance && (inR 0 4000 x.field && inR 0 1 x.short)
theorem Env_meets (x : Env) : Meets Try.prog 27 [x.d] fun d => d = iD (if x.good then 0 else 1) := by
 refine enter tok {} Try.func27 rfl (by kernel_rfl) Try.ntmps27 (by simp) fun B0 W0 V0 lent g0 => ?_
 ((conv => whnf); repeat' (refine Z rfl ?_; conv => whnf))
 repeat' ((first | (intro hlq; (try simp only [SL] at hlq)) | refine Meets.k (within_meets _ _ [_]) ?_ | ((refine Kh (fun hb => ?_) fun hb => ?_) <;> (try simp only [BL] at hb)) | refine Ka ?_ | refine Kb ?_ | refine Kc (hd := rfl) (e := ?_) | refine Kc (hd := Cond.cells_eq _) (e := ?_) | refine Kd (e := ?_) | refine Kl rfl ?_ | fail) <;> ((conv => whnf); repeat' (refine Z rfl ?_; conv => whnf)))
 all_goals refine ⟨congrArg iD ?_⟩
 all_goals simp_all [Env.good]
theorem rEnv_meets (x : Env) : Meets Try.prog 45 [x.d] fun d => d = iD (if x.good then 0 else 1) := by
 refine enter tok {} Try.func45 rfl (by kernel_rfl) Try.ntmps45 (by simp) fun B0 W0 V0 lent g0 => ?_
 ((conv => whnf); repeat' (refine Z rfl ?_; conv => whnf))
 repeat' ((first | (intro hlq; (try simp only [SL] at hlq)) | ((refine Kh (fun hb => ?_) fun hb => ?_) <;> (try simp only [BL] at hb)) | refine Ka ?_ | refine Kb ?_ | refine Kc (hd := rfl) (e := ?_) | refine Kc (hd := Cond.cells_eq _) (e := ?_) | refine Kd (e := ?_) | refine Kl rfl ?_ | fail) <;> ((conv => whnf); repeat' (refine Z rfl ?_; conv => whnf)))
 all_goals refine ⟨congrArg iD ?_⟩
 all_goals first
  | (rw [if_neg]; simp [Env.good, inR]; omega)
  | (rw [if_pos]; simp [Env.good, inR]; omega)
/-! the size of steps, as the reference counts -/
mutual
def Step.siz : Step → Int → Int × Int
 | ⟨_, _, c, t, e⟩, dp => (1 + (if t ≠ [] ∧ dp > 15 then (1000, 1000) else Step.sizL t (dp + 1) 0 0).1 + (if e ≠ [] ∧ dp > 15 then (1000, 1000) else Step.sizL e (dp + 1) 0 0).1,
    (if t ≠ [] ∧ dp > 15 then (1000, 1000) else Step.sizL t (dp + 1) 0 0).2 + (if e ≠ [] ∧ dp > 15 then (1000, 1000) else Step.sizL e (dp + 1) 0 0).2 + (if c.isZero then 0 else c.conds 0))
def Step.sizL : List Step → Int → Int → Int → Int × Int
 | [], _, n, m => (n, m)
 | s :: ss, dp, n, m => if n ≤ 64 ∧ m ≤ 256 then Step.sizL ss dp (n + (s.siz dp).1) (m + (s.siz dp).2) else (n, m)
end
def sizR (l : List Step) (dp : Int) : Int × Int := if l ≠ [] ∧ dp > 16 then (1000, 1000) else Step.sizL l dp 0 0
theorem Step.siz_eq (s : Step) (dp : Int) : s.siz dp = (1 + (sizR s.th (dp + 1)).1 + (sizR s.el (dp + 1)).1, (sizR s.th (dp + 1)).2 + (sizR s.el (dp + 1)).2 + (if s.cond.isZero then 0 else s.cond.conds 0)) := by
 obtain ⟨k, b, c, t, e⟩ := s
 simp only [Step.siz, sizR]
 have : (dp + 1 > 16) = (dp > 15) := by apply propext; omega
 simp only [this]
/-! walks -/
def sB : Nat → Int
 | 0 => 10000
 | k + 1 => 2 * sB k + 10000
theorem sB_le : ∀ k, k < 18 → 10000 ≤ sB k ∧ sB k ≤ 10000000000 := by decide
theorem szS_mem {l : List Step} {s : Step} (h : s ∈ l) : 1 + s.sz ≤ Step.szL l := by
 have := szF_mem (l := formsS l) (f := .ofS s) (List.mem_map_of_mem h)
 rw [szF_S] at this
 exact this
theorem size_meets (l : List Step) (dp : Int) (k : Nat) (hd : 0 ≤ dp) (hk : dp + k = 17) : Meets Try.prog 75 [.sl (l.map Step.cells), iD dp] fun d => ∃ n m : Int, d = .tup [iD n, iD m] ∧ (n, m) = sizR l dp ∧ (0 ≤ n ∧ n ≤ sB k) ∧ 0 ≤ m ∧ m ≤ sB k := by
 have hB := sB_le k (by omega)
 refine enter tok {} Try.func75 rfl (by kernel_rfl) Try.ntmps75 (by simp) fun B0 W0 V0 lent g0 => ?_
 ((conv => whnf); repeat' (refine Z rfl ?_; conv => whnf))
 repeat' ((first | (intro hlq; (try simp only [SL] at hlq)) | ((refine Kh (fun hb => ?_) fun hb => ?_) <;> (try simp only [BL] at hb)) | refine Ka ?_ | refine Kb ?_ | refine Kc (hd := rfl) (e := ?_) | refine Kc (hd := Cond.cells_eq _) (e := ?_) | refine Kd (e := ?_) | refine Kl rfl ?_ | fail) <;> ((conv => whnf); repeat' (refine Z rfl ?_; conv => whnf)))
 · refine ⟨_, _, rfl, ?_, by omega, by omega⟩
   have hne : l ≠ [] := by rintro rfl; simp at *
   rw [sizR, if_pos ⟨hne, by omega⟩]
 all_goals
  have hno : sizR l dp = Step.sizL l dp 0 0 := by
   rw [sizR, if_neg]
   rintro ⟨h1, h2⟩
   have := List.length_pos_iff.2 h1
   omega
  refine loop_upd tok {} [] (X := Nat × Int × Int) (fun x => [(8, iB x.1), (6, iB x.2.1), (7, iB x.2.2)]) (fun _ => []) [] (fun x => x.1 ≤ l.length ∧ Step.sizL (l.drop x.1) dp x.2.1 x.2.2 = Step.sizL l dp 0 0 ∧ (0 ≤ x.2.1 ∧ x.2.1 ≤ sB k) ∧ 0 ≤ x.2.2 ∧ x.2.2 ≤ sB k) (fun x => l.length - x.1) (0, 0, 0) ?_
  ((conv => whnf); repeat' (refine Z rfl ?_; conv => whnf))
  refine And.intro ?_ ⟨⟨by omega, by simp, ⟨by dsimp only; omega, by dsimp only; omega⟩, by dsimp only; omega, by dsimp only; omega⟩, fun x hΦ => ?_⟩
  · exact Kr
  obtain ⟨i, n, m⟩ := x
  obtain ⟨hi, heq, hn, hm⟩ := hΦ
  dsimp only at hi heq hn hm
  ((conv => whnf); repeat' (refine Z rfl ?_; conv => whnf))
  repeat' ((first | (intro hlq; (try simp only [SL] at hlq)) | ((refine Kh (fun hb => ?_) fun hb => ?_) <;> (try simp only [BL] at hb)) | refine Ka ?_ | refine Kb ?_ | refine Kc (hd := rfl) (e := ?_) | refine Kc (hd := Step.cells_eq _) (e := ?_) | refine Kd (e := ?_) | refine Kl rfl ?_ | fail) <;> ((conv => whnf); repeat' (refine Z rfl ?_; conv => whnf)))
  all_goals try (exfalso; omega)
  all_goals try (refine ⟨n, m, rfl, ?_, hn, hm⟩; rw [hno, ← heq]; first | (rw [List.drop_eq_nil_of_le (by omega), Step.sizL]; done) | (rw [List.drop_eq_getElem_cons (by omega), Step.sizL, if_neg (by omega)]; done))
 have h1' : i < l.length := by omega
 obtain ⟨k', rfl⟩ : ∃ k', k = k' + 1 := ⟨k - 1, by omega⟩
 have hsB : sB (k' + 1) = 2 * sB k' + 10000 := rfl
 have hB' := sB_le k' (by omega)
 have hstep := Step.siz_eq l[i] dp
 refine (size_meets l[i].th (dp + 1) k' (by omega) (by omega)).mono fun d hd => ?_
 obtain ⟨a, b, rfl, hab, ha, hb'⟩ := hd
 ((conv => whnf); repeat' (refine Z rfl ?_; conv => whnf))
 repeat' ((first | (intro hlq; (try simp only [SL] at hlq)) | refine Ka ?_ | refine Kb ?_ | refine Kc (hd := rfl) (e := ?_) | refine Kc (hd := Step.cells_eq _) (e := ?_) | refine Kd (e := ?_) | refine Kl rfl ?_ | fail) <;> ((conv => whnf); repeat' (refine Z rfl ?_; conv => whnf)))
 refine (size_meets l[i].el (dp + 1) k' (by omega) (by omega)).mono fun d hd => ?_
 obtain ⟨c, e, rfl, hce, hc, he⟩ := hd
 rw [← hab, ← hce] at hstep
 ((conv => whnf); repeat' (refine Z rfl ?_; conv => whnf))
 repeat' ((first | (intro hlq; (try simp only [SL] at hlq)) | refine Ka ?_ | refine Kb ?_ | refine Kc (hd := rfl) (e := ?_) | refine Kc (hd := Step.cells_eq _) (e := ?_) | refine Kd (e := ?_) | refine Kl rfl ?_ | fail) <;> ((conv => whnf); repeat' (refine Z rfl ?_; conv => whnf)))
 refine Meets.k (zero_meets l[i].cond) ?_
 ((conv => whnf); repeat' (refine Z rfl ?_; conv => whnf))
 refine ⟨fun hz => ?_, fun hz => ?_⟩ <;> (try simp only [BL] at hz) <;> ((conv => whnf); repeat' (refine Z rfl ?_; conv => whnf))
 · repeat' ((first | (intro hlq; (try simp only [SL] at hlq)) | refine Ka ?_ | refine Kb ?_ | refine Kc (hd := rfl) (e := ?_) | refine Kc (hd := Step.cells_eq _) (e := ?_) | refine Kd (e := ?_) | refine Kl rfl ?_ | fail) <;> ((conv => whnf); repeat' (refine Z rfl ?_; conv => whnf)))
   refine (conditions_meets l[i].cond 0 (by omega)).mono fun d hd => ?_
   obtain ⟨rfl, hv0, hv1⟩ := hd
   ((conv => whnf); repeat' (refine Z rfl ?_; conv => whnf))
   repeat' ((first | (intro hlq; (try simp only [SL] at hlq)) | refine Ka ?_ | refine Kb ?_ | refine Kc (hd := rfl) (e := ?_) | refine Kc (hd := Step.cells_eq _) (e := ?_) | refine Kd (e := ?_) | refine Kl rfl ?_ | fail) <;> ((conv => whnf); repeat' (refine Z rfl ?_; conv => whnf)))
   refine ⟨⟨(i + 1, n + 1 + a + c, m + b + e + l[i].cond.conds 0), ?_, ⟨by dsimp only; omega, ?_, ⟨by dsimp only; omega, by dsimp only; omega⟩, by dsimp only; omega, by dsimp only; omega⟩, by dsimp only; omega⟩⟩
   · exact Kr
   dsimp only
   rw [← heq, List.drop_eq_getElem_cons h1', Step.sizL, if_pos (by omega), hstep]
   simp only [hz, if_false, Bool.false_eq_true]
   congr 1 <;> omega
 · repeat' ((first | (intro hlq; (try simp only [SL] at hlq)) | refine Ka ?_ | refine Kb ?_ | refine Kc (hd := rfl) (e := ?_) | refine Kc (hd := Step.cells_eq _) (e := ?_) | refine Kd (e := ?_) | refine Kl rfl ?_ | fail) <;> ((conv => whnf); repeat' (refine Z rfl ?_; conv => whnf)))
   refine ⟨⟨(i + 1, n + 1 + a + c, m + b + e), ?_, ⟨by dsimp only; omega, ?_, ⟨by dsimp only; omega, by dsimp only; omega⟩, by dsimp only; omega, by dsimp only; omega⟩, by dsimp only; omega⟩⟩
   · exact Kr
   dsimp only
   rw [← heq, List.drop_eq_getElem_cons h1', Step.sizL, if_pos (by omega), hstep]
   simp only [hz, if_true]
   congr 1 <;> omega
termination_by Step.szL l
decreasing_by
 all_goals
  have h2 := szS_mem (List.getElem_mem h1')
  have h3 := l[i].sz_eq
  omega
end Go.Proofs.Ytacclfgmgphljaa.Dx
/- The reference's steps, Ties; Few, FewCond. -/
namespace Go.Proofs.Ytacclfgmgphljaa.Dx
open Go Go.RowKit
set_option maxRecDepth 100000
set_option maxHeartbeats 8000000
end Go.Proofs.Ytacclfgmgphljaa.Dx
/- Holds, in the code and in the reference; Few, FewCond. -/
namespace Go.Proofs.Ytacclfgmgphljaa.Dx
open Go Go.RowKit
set_option maxRecDepth 100000
set_option maxHeartbeats 8000000
theorem FewCond_meets (c : Cond) : Meets Try.prog 26 [c.d] fun d => ∃ b, d = bD b := by
 refine enter tok {} Try.func26 rfl (by kernel_rfl) Try.ntmps26 (by simp) fun B0 W0 V0 lent g0 => ?_
 ((conv => whnf); repeat' (refine Z rfl ?_; conv => whnf))
 refine (conditions_meets c 0 (by omega)).mono fun d hd => ?_
 obtain ⟨rfl, hv0, hv1⟩ := hd
 ((conv => whnf); repeat' (refine Z rfl ?_; conv => whnf))
 exact ⟨_, rfl⟩
theorem Few_meets (l : List Step) : Meets Try.prog 50 [.sl (l.map Step.cells)] fun d => ∃ b, d = bD b := by
 refine enter tok {} Try.func50 rfl (by kernel_rfl) Try.ntmps50 (by simp) fun B0 W0 V0 lent g0 => ?_
 ((conv => whnf); repeat' (refine Z rfl ?_; conv => whnf))
 refine (size_meets l 0 17 (by omega) (by omega)).mono fun d hd => ?_
 obtain ⟨n, m, rfl, hnm, hn, hm⟩ := hd
 ((conv => whnf); repeat' (refine Z rfl ?_; conv => whnf))
 repeat' ((first | (intro hlq; (try simp only [SL] at hlq)) | ((refine Kh (fun hb => ?_) fun hb => ?_) <;> (try simp only [BL] at hb)) | refine Ka ?_ | refine Kb ?_ | refine Kc (hd := rfl) (e := ?_) | refine Kc (hd := Cond.cells_eq _) (e := ?_) | refine Kd (e := ?_) | refine Kl rfl ?_ | fail) <;> ((conv => whnf); repeat' (refine Z rfl ?_; conv => whnf)))
 all_goals exact ⟨_, rfl⟩
def Env.value (x : Env) (v : Int) : Int := if v = 1 then x.distance else if v = 2 then x.field else x.short
theorem value_meets (v : Int) (x : Env) : Meets Try.prog 85 [iD v, x.d] fun d => d = iD (x.value v) := by
 refine enter tok {} Try.func85 rfl (by kernel_rfl) Try.ntmps85 (by simp) fun B0 W0 V0 lent g0 => ?_
 ((conv => whnf); repeat' (refine Z rfl ?_; conv => whnf))
 repeat' ((first | (intro hlq; (try simp only [SL] at hlq)) | ((refine Kh (fun hb => ?_) fun hb => ?_) <;> (try simp only [BL] at hb)) | refine Ka ?_ | refine Kb ?_ | refine Kc (hd := rfl) (e := ?_) | refine Kc (hd := Cond.cells_eq _) (e := ?_) | refine Kd (e := ?_) | refine Kl rfl ?_ | fail) <;> ((conv => whnf); repeat' (refine Z rfl ?_; conv => whnf)))
 all_goals refine ⟨congrArg iD ?_⟩
 all_goals simp_all [Env.value]
theorem rvalue_meets (v : Int) (x : Env) : Meets Try.prog 66 [iD v, x.d] fun d => d = iD (x.value v) := by
 refine enter tok {} Try.func66 rfl (by kernel_rfl) Try.ntmps66 (by simp) fun B0 W0 V0 lent g0 => ?_
 ((conv => whnf); repeat' (refine Z rfl ?_; conv => whnf))
 repeat' ((first | (intro hlq; (try simp only [SL] at hlq)) | ((refine Kh (fun hb => ?_) fun hb => ?_) <;> (try simp only [BL] at hb)) | refine Ka ?_ | refine Kb ?_ | refine Kc (hd := rfl) (e := ?_) | refine Kc (hd := Cond.cells_eq _) (e := ?_) | refine Kd (e := ?_) | refine Kl rfl ?_ | fail) <;> ((conv => whnf); repeat' (refine Z rfl ?_; conv => whnf)))
 all_goals refine ⟨congrArg iD ?_⟩
 all_goals simp_all [Env.value]
mutual
def Cond.holds (x : Env) : Cond → Bool
 | ⟨k, v, n, ps⟩ => if k = 1 then decide (x.value v ≥ n) else if k = 4 then (match ps with | [] => false | p :: _ => !Cond.holds x p) else if k = 3 then Cond.anyL x ps else Cond.allL x ps
def Cond.anyL (x : Env) : List Cond → Bool
 | [] => false
 | c :: cs => Cond.holds x c || Cond.anyL x cs
def Cond.allL (x : Env) : List Cond → Bool
 | [] => true
 | c :: cs => Cond.holds x c && Cond.allL x cs
end
theorem anyL_eq (x : Env) : ∀ l : List Cond, Cond.anyL x l = l.any (Cond.holds x) := by
 intro l; induction l with | nil => rfl | cons c l ih => simp [Cond.anyL, ih]
theorem allL_eq (x : Env) : ∀ l : List Cond, Cond.allL x l = l.all (Cond.holds x) := by
 intro l; induction l with | nil => rfl | cons c l ih => simp [Cond.allL, ih]
theorem holds_eq (x : Env) (c : Cond) : c.holds x = if c.kind = 1 then decide (x.value c.var ≥ c.n) else if c.kind = 4 then (match c.parts with | [] => false | p :: _ => !Cond.holds x p) else if c.kind = 3 then c.parts.any (Cond.holds x) else c.parts.all (Cond.holds x) := by
 obtain ⟨k, v, n, ps⟩ := c; cases ps <;> simp only [Cond.holds, anyL_eq, allL_eq]
/-- what a valid condition is -/
theorem valid_cases {c : Cond} (h : c.valid = true) : c.kind = 1 ∨ (c.kind = 4 ∧ ∃ p, c.parts = [p] ∧ p.valid = true) ∨ ((c.kind = 2 ∨ c.kind = 3) ∧ ∀ p ∈ c.parts, p.valid = true) := by
 rw [Cond.valid_eq] at h
 split at h
 · exact .inl (by assumption)
 · split at h
   · simp only [Bool.and_eq_true, decide_eq_true_eq] at h
     have hl : c.parts.length = 1 := by omega
     obtain ⟨p, hp⟩ := List.length_eq_one_iff.1 hl
     refine .inr (.inl ⟨by assumption, p, hp, ?_⟩)
     have := h.2.2
     rw [hp] at this
     simpa using this
   · split at h
     · simp only [Bool.and_eq_true, decide_eq_true_eq] at h
       exact .inr (.inr ⟨by assumption, List.all_eq_true.1 h.2.2⟩)
     · cases h
theorem holds_meets (c : Cond) (x : Env) (hv : c.valid = true) : Meets Try.prog 62 [c.d, x.d] fun d => d = bD (c.holds x) := by
 have hask : ∀ p, (p ∈ c.parts ∨ c.parts = [p]) → p.valid = true → Meets Try.prog 84 ([] ++ ([p.d] ++ [.ptr [iD x.distance, iD x.field, iD x.short] 0])) fun r => r = bD (p.holds x) := by
  intro p hp hpv
  refine enter tok {} Try.func84 rfl (by kernel_rfl) Try.ntmps84 (by simp) fun B0 W0 V0 lent g0 => ?_
  ((conv => whnf); repeat' (refine Z rfl ?_; conv => whnf))
  have hp' : p ∈ c.parts := by
   rcases hp with h | h
   · exact h
   · rw [h]; simp
  refine Meets.k (holds_meets p x hpv) ?_
  ((conv => whnf); repeat' (refine Z rfl ?_; conv => whnf))
  exact ⟨rfl⟩
 have hh := holds_eq x c
 refine enter tok {} Try.func62 rfl (by kernel_rfl) Try.ntmps62 (by simp) fun B0 W0 V0 lent g0 => ?_
 ((conv => whnf); repeat' (refine Z rfl ?_; conv => whnf))
 refine ⟨fun h1 => ?_, fun h1 => ?_⟩ <;> (try simp only [BL] at h1) <;> ((conv => whnf); repeat' (refine Z rfl ?_; conv => whnf))
 · refine draw_rule tok (cf := {}) (by kernel_rfl) [.p 0, .p 1, .p 2, .p 4, .p 5, .s 3 [1,2,0], .p 6, .p 7] (by kernel_rfl) ?_
   ((conv => whnf); repeat' (refine Z rfl ?_; conv => whnf))
   refine Meets.k (value_meets c.var x) ?_
   ((conv => whnf); repeat' (refine Z rfl ?_; conv => whnf))
   repeat' ((first | (intro hlq; (try simp only [SL] at hlq)) | refine Ka ?_ | refine Kb ?_ | refine Kc (hd := rfl) (e := ?_) | refine Kc (hd := Cond.cells_eq _) (e := ?_) | refine Kd (e := ?_) | refine Kl rfl ?_ | fail) <;> ((conv => whnf); repeat' (refine Z rfl ?_; conv => whnf)))
   refine ⟨congrArg bD ?_⟩
   rw [hh, if_pos h1]
 refine ⟨fun h2 => ?_, fun h2 => ?_⟩ <;> (try simp only [BL] at h2) <;> ((conv => whnf); repeat' (refine Z rfl ?_; conv => whnf))
 · obtain ⟨p, hp, hpv⟩ : ∃ p, c.parts = [p] ∧ p.valid = true := by
    rcases valid_cases hv with h | ⟨_, h⟩ | ⟨h, _⟩
    · exact absurd h h1
    · exact h
    · omega
   refine draw_rule tok (cf := {}) (by kernel_rfl) [.p 0, .p 1, .p 2, .p 3, .p 4, .s 5 [0,4,3,2,1], .p 6, .p 7] (by kernel_rfl) ?_
   ((conv => whnf); repeat' (refine Z rfl ?_; conv => whnf))
   refine ⟨p.dc, ⟨by omega, by rw [hp]; exact congrArg some (Cond.cells_eq p), rfl⟩, ?_⟩
   ((conv => whnf); repeat' (refine Z rfl ?_; conv => whnf))
   repeat' ((first | (intro hlq; (try simp only [SL] at hlq)) | refine Ka ?_ | refine Kb ?_ | refine Kc (hd := rfl) (e := ?_) | refine Kc (hd := Cond.cells_eq _) (e := ?_) | refine Kd (e := ?_) | refine Kl rfl ?_ | fail) <;> ((conv => whnf); repeat' (refine Z rfl ?_; conv => whnf)))
   refine Meets.k (hask p (.inr hp) hpv) ?_
   ((conv => whnf); repeat' (refine Z rfl ?_; conv => whnf))
   repeat' ((first | (intro hlq; (try simp only [SL] at hlq)) | refine Ka ?_ | refine Kb ?_ | refine Kc (hd := rfl) (e := ?_) | refine Kc (hd := Cond.cells_eq _) (e := ?_) | refine Kd (e := ?_) | refine Kl rfl ?_ | fail) <;> ((conv => whnf); repeat' (refine Z rfl ?_; conv => whnf)))
   refine ⟨congrArg bD ?_⟩
   rw [hh, if_neg h1, if_pos h2, hp]
 have hall : ∀ p ∈ c.parts, p.valid = true := by
  rcases valid_cases hv with h | ⟨h, _⟩ | ⟨_, h⟩
  · exact absurd h h1
  · exact absurd h h2
  · exact h
 refine ⟨fun h3 => ?_, fun h3 => ?_⟩ <;> (try simp only [BL] at h3) <;> ((conv => whnf); repeat' (refine Z rfl ?_; conv => whnf))
 · refine Meets.k (contains_cond c.parts 84 [] [.ptr [iD x.distance, iD x.field, iD x.short] 0] (Cond.holds x) fun p hp => hask p (.inl hp) (hall p hp)) ?_
   ((conv => whnf); repeat' (refine Z rfl ?_; conv => whnf))
   refine ⟨congrArg bD ?_⟩
   rw [hh, if_neg h1, if_neg h2, if_pos h3]
 · refine Meets.k (contains_cond c.parts 87 [] [.ptr [.fn 84 [] [.ptr [iD x.distance, iD x.field, iD x.short] 0]] 0] (fun p => !Cond.holds x p) fun p hp => ?_) ?_
   · refine enter tok {} Try.func87 rfl (by kernel_rfl) Try.ntmps87 (by simp) fun B0 W0 V0 lent g0 => ?_
     ((conv => whnf); repeat' (refine Z rfl ?_; conv => whnf))
     refine Meets.k (hask p (.inl hp) (hall p hp)) ?_
     ((conv => whnf); repeat' (refine Z rfl ?_; conv => whnf))
     exact ⟨rfl⟩
   ((conv => whnf); repeat' (refine Z rfl ?_; conv => whnf))
   refine ⟨congrArg bD ?_⟩
   rw [hh, if_neg h1, if_neg h2, if_neg h3, ← List.not_all_eq_any_not, Bool.not_not]
termination_by SizeOf.sizeOf c
decreasing_by all_goals exact Cond.size_part hp'
end Go.Proofs.Ytacclfgmgphljaa.Dx
/- Direct in the reference; lists of numbers. -/
namespace Go.Proofs.Ytacclfgmgphljaa.Dx
open Go Go.RowKit
set_option maxRecDepth 100000
set_option maxHeartbeats 8000000
def hasI (l : List Int) (n : Int) : Bool := l.any fun x => decide (x = n)
theorem In_meets (l : List Int) (n : Int) : Meets Try.prog 49 [.sl (l.map icells), iD n] fun d => d = bD (hasI l n) := by
 refine enter tok {} Try.func49 rfl (by kernel_rfl) Try.ntmps49 (by simp) fun B0 W0 V0 lent g0 => ?_
 ((conv => whnf); repeat' (refine Z rfl ?_; conv => whnf))
 refine loop_upd tok {} [] (X := Nat) (fun i => [(5, iB i)]) (fun _ => []) [] (fun i => i ≤ l.length ∧ ∀ x ∈ l.take i, decide (x = n) = false) (fun i => l.length - i) 0 ?_
 ((conv => whnf); repeat' (refine Z rfl ?_; conv => whnf))
 refine And.intro ?_ ⟨⟨by omega, by simp⟩, fun i hΦ => ?_⟩
 · exact Kr
 obtain ⟨hi, hp⟩ := hΦ
 ((conv => whnf); repeat' (refine Z rfl ?_; conv => whnf))
 repeat' ((first | (intro hlq; (try simp only [SL] at hlq)) | refine Ka ?_ | refine Kb ?_ | refine Kc (hd := rfl) (e := ?_) | refine Kc (hd := Cond.cells_eq _) (e := ?_) | refine Kd (e := ?_) | refine Kl rfl ?_ | fail) <;> ((conv => whnf); repeat' (refine Z rfl ?_; conv => whnf)))
 refine ⟨fun h1 => ?_, fun h1 => ?_⟩ <;> (try simp only [BL] at h1) <;> ((conv => whnf); repeat' (refine Z rfl ?_; conv => whnf))
 · have h1' : i < l.length := by omega
   repeat' ((first | (intro hlq; (try simp only [SL] at hlq)) | refine Ka ?_ | refine Kb ?_ | refine Kc (hd := rfl) (e := ?_) | refine Kc (hd := icells_eq _) (e := ?_) | refine Kd (e := ?_) | refine Kl rfl ?_ | fail) <;> ((conv => whnf); repeat' (refine Z rfl ?_; conv => whnf)))
   refine ⟨fun h2 => ?_, fun h2 => ?_⟩ <;> (try simp only [BL] at h2) <;> ((conv => whnf); repeat' (refine Z rfl ?_; conv => whnf))
   · refine ⟨congrArg bD ?_⟩
     rw [hasI, List.any_eq_true.2 ⟨_, List.getElem_mem h1', decide_eq_true h2⟩]
   · repeat' ((first | (intro hlq; (try simp only [SL] at hlq)) | refine Ka ?_ | refine Kb ?_ | refine Kc (hd := rfl) (e := ?_) | refine Kc (hd := Cond.cells_eq _) (e := ?_) | refine Kd (e := ?_) | refine Kl rfl ?_ | fail) <;> ((conv => whnf); repeat' (refine Z rfl ?_; conv => whnf)))
     refine ⟨⟨i + 1, ?_, ⟨by omega, take_snoc h1' hp (decide_eq_false h2)⟩, by omega⟩⟩
     repeat' (first | exact True.intro | exact rfl | refine And.intro ?_ ?_)
 · refine ⟨congrArg bD ?_⟩
   rw [List.take_of_length_le (by omega)] at hp
   rw [hasI, any_take hp]
theorem Index_meets (l : List Int) (n : Int) : Meets Try.prog 88 [.sl (l.map icells), iD n] fun d => ∃ r : Int, d = iD r ∧ decide (r ≥ 0) = hasI l n := by
 refine enter tok {} Try.func88 rfl (by kernel_rfl) Try.ntmps88 (by simp) fun B0 W0 V0 lent g0 => ?_
 ((conv => whnf); repeat' (refine Z rfl ?_; conv => whnf))
 repeat' ((first | (intro hlq; (try simp only [SL] at hlq)) | refine Ka ?_ | refine Kb ?_ | refine Kc (hd := rfl) (e := ?_) | refine Kc (hd := Cond.cells_eq _) (e := ?_) | refine Kd (e := ?_) | refine Kl rfl ?_ | fail) <;> ((conv => whnf); repeat' (refine Z rfl ?_; conv => whnf)))
 refine loop_upd tok {} [] (X := Nat) (fun i => [(8, iB i)]) (fun _ => []) [] (fun i => i ≤ l.length ∧ ∀ x ∈ l.take i, decide (x = n) = false) (fun i => l.length - i) 0 ?_
 ((conv => whnf); repeat' (refine Z rfl ?_; conv => whnf))
 refine And.intro ?_ ⟨⟨by omega, by simp⟩, fun i hΦ => ?_⟩
 · exact Kr
 obtain ⟨hi, hp⟩ := hΦ
 ((conv => whnf); repeat' (refine Z rfl ?_; conv => whnf))
 refine ⟨fun h1 => ?_, fun h1 => ?_⟩ <;> (try simp only [BL] at h1) <;> ((conv => whnf); repeat' (refine Z rfl ?_; conv => whnf))
 · have h1' : i < l.length := by omega
   repeat' ((first | (intro hlq; (try simp only [SL] at hlq)) | refine Ka ?_ | refine Kb ?_ | refine Kc (hd := rfl) (e := ?_) | refine Kc (hd := icells_eq _) (e := ?_) | refine Kd (e := ?_) | refine Kl rfl ?_ | fail) <;> ((conv => whnf); repeat' (refine Z rfl ?_; conv => whnf)))
   refine ⟨fun h2 => ?_, fun h2 => ?_⟩ <;> (try simp only [BL] at h2) <;> ((conv => whnf); repeat' (refine Z rfl ?_; conv => whnf))
   · refine ⟨_, rfl, ?_⟩
     rw [hasI, List.any_eq_true.2 ⟨_, List.getElem_mem h1', decide_eq_true h2.symm⟩]
     simp
   · repeat' ((first | (intro hlq; (try simp only [SL] at hlq)) | refine Ka ?_ | refine Kb ?_ | refine Kc (hd := rfl) (e := ?_) | refine Kc (hd := Cond.cells_eq _) (e := ?_) | refine Kd (e := ?_) | refine Kl rfl ?_ | fail) <;> ((conv => whnf); repeat' (refine Z rfl ?_; conv => whnf)))
     refine ⟨⟨i + 1, ?_, ⟨by omega, take_snoc h1' hp (decide_eq_false fun e => h2 e.symm)⟩, by omega⟩⟩
     repeat' (first | exact True.intro | exact rfl | refine And.intro ?_ ?_)
 · refine ⟨_, rfl, ?_⟩
   rw [List.take_of_length_le (by omega)] at hp
   rw [hasI, any_take hp]
   decide
theorem Contains_meets (l : List Int) (n : Int) : Meets Try.prog 63 [.sl (l.map icells), iD n] fun d => d = bD (hasI l n) := by
 refine enter tok {} Try.func63 rfl (by kernel_rfl) Try.ntmps63 (by simp) fun B0 W0 V0 lent g0 => ?_
 ((conv => whnf); repeat' (refine Z rfl ?_; conv => whnf))
 refine (Index_meets l n).mono fun d hd => ?_
 obtain ⟨r, rfl, hr⟩ := hd
 ((conv => whnf); repeat' (refine Z rfl ?_; conv => whnf))
 refine ⟨?_⟩
 rw [hr]
theorem Same_meets (a b : List Int) : Meets Try.prog 18 [.sl (a.map icells), .sl (b.map icells)] fun d => d = bD (decide (a = b)) := by
 refine enter tok {} Try.func18 rfl (by kernel_rfl) Try.ntmps18 (by simp) fun B0 W0 V0 lent g0 => ?_
 ((conv => whnf); repeat' (refine Z rfl ?_; conv => whnf))
 repeat' ((first | (intro hlq; (try simp only [SL] at hlq)) | ((refine Kh (fun hb => ?_) fun hb => ?_) <;> (try simp only [BL] at hb)) | refine Ka ?_ | refine Kb ?_ | refine Kc (hd := rfl) (e := ?_) | refine Kc (hd := Cond.cells_eq _) (e := ?_) | refine Kd (e := ?_) | refine Kl rfl ?_ | fail) <;> ((conv => whnf); repeat' (refine Z rfl ?_; conv => whnf)))
 · refine ⟨congrArg bD ?_⟩
   rw [decide_eq_false]
   rintro rfl
   omega
 have hlen : a.length = b.length := by omega
 refine loop_upd tok {} [] (X := Nat) (fun i => [(5, iB i)]) (fun _ => []) [] (fun i => i ≤ a.length ∧ a.take i = b.take i) (fun i => a.length - i) 0 ?_
 ((conv => whnf); repeat' (refine Z rfl ?_; conv => whnf))
 refine And.intro ?_ ⟨⟨by omega, by simp⟩, fun i hΦ => ?_⟩
 · exact Kr
 obtain ⟨hi, hp⟩ := hΦ
 ((conv => whnf); repeat' (refine Z rfl ?_; conv => whnf))
 repeat' ((first | (intro hlq; (try simp only [SL] at hlq)) | refine Ka ?_ | refine Kb ?_ | refine Kc (hd := rfl) (e := ?_) | refine Kc (hd := Cond.cells_eq _) (e := ?_) | refine Kd (e := ?_) | refine Kl rfl ?_ | fail) <;> ((conv => whnf); repeat' (refine Z rfl ?_; conv => whnf)))
 refine ⟨fun h1 => ?_, fun h1 => ?_⟩ <;> (try simp only [BL] at h1) <;> ((conv => whnf); repeat' (refine Z rfl ?_; conv => whnf))
 · have h1' : i < a.length := by omega
   refine draw_rule tok (cf := {}) (by kernel_rfl) [.p 0, .p 1, .p 2, .p 3, .p 4, .p 5, .p 6, .p 7, .p 8] (by kernel_rfl) ?_
   ((conv => whnf); repeat' (refine Z rfl ?_; conv => whnf))
   repeat' ((first | (intro hlq; (try simp only [SL] at hlq)) | refine Ka ?_ | refine Kb ?_ | refine Kc (hd := rfl) (e := ?_) | refine Kc (hd := icells_eq _) (e := ?_) | refine Kd (e := ?_) | refine Kl rfl ?_ | fail) <;> ((conv => whnf); repeat' (refine Z rfl ?_; conv => whnf)))
   refine ⟨fun h2 => ?_, fun h2 => ?_⟩ <;> (try simp only [BL] at h2) <;> ((conv => whnf); repeat' (refine Z rfl ?_; conv => whnf))
   · refine ⟨congrArg bD ?_⟩
     rw [decide_eq_false]
     rintro rfl
     exact h2 rfl
   · repeat' ((first | (intro hlq; (try simp only [SL] at hlq)) | refine Ka ?_ | refine Kb ?_ | refine Kc (hd := rfl) (e := ?_) | refine Kc (hd := Cond.cells_eq _) (e := ?_) | refine Kd (e := ?_) | refine Kl rfl ?_ | fail) <;> ((conv => whnf); repeat' (refine Z rfl ?_; conv => whnf)))
     refine ⟨⟨i + 1, ?_, ⟨by omega, ?_⟩, by omega⟩⟩
     · exact Kr
     rw [List.take_succ_eq_append_getElem h1', List.take_succ_eq_append_getElem (by omega : i < b.length), hp, Classical.byContradiction h2]
 · refine ⟨congrArg bD ?_⟩
   rw [List.take_of_length_le (by omega), List.take_of_length_le (by omega)] at hp
   rw [decide_eq_true hp]
/-! what valid steps apply -/
mutual
def Step.app (x : Env) : Step → List Int → List Int
 | ⟨k, b, c, t, e⟩, acc => if k = 2 then (if c.holds x then Step.appL x t acc else Step.appL x e acc) else (if hasI acc b then acc else acc ++ [b])
def Step.appL (x : Env) : List Step → List Int → List Int
 | [], acc => acc
 | s :: ss, acc => Step.appL x ss (Step.app x s acc)
end
theorem app_eq (x : Env) (s : Step) (acc : List Int) : Step.app x s acc = if s.kind = 2 then (if s.cond.holds x then Step.appL x s.th acc else Step.appL x s.el acc) else (if hasI acc s.crit then acc else acc ++ [s.crit]) := by
 obtain ⟨k, b, c, t, e⟩ := s; simp only [Step.app]
mutual
theorem app_len (x : Env) : ∀ (s : Step) (acc : List Int), (Step.app x s acc).length ≤ acc.length + s.nst
 | ⟨k, b, c, t, e⟩, acc => by
   have h1 := appL_len x t acc
   have h2 := appL_len x e acc
   simp only [Step.app, Step.nst]
   split
   · split <;> omega
   · split
     · omega
     · rw [List.length_append, List.length_singleton]; omega
theorem appL_len (x : Env) : ∀ (l : List Step) (acc : List Int), (Step.appL x l acc).length ≤ acc.length + Step.nstL l
 | [], acc => by simp [Step.appL]
 | s :: ss, acc => by
   have h1 := app_len x s acc
   have h2 := appL_len x ss (Step.app x s acc)
   simp only [Step.appL, Step.nstL]
   omega
end
theorem valid_kind {s : Step} (h : s.valid = true) : (s.kind = 1) ∨ (s.kind = 2 ∧ s.cond.valid = true ∧ (∀ z ∈ s.th, z.valid = true) ∧ ∀ z ∈ s.el, z.valid = true) := by
 rw [Step.valid_eq] at h
 split at h
 · exact .inl (by assumption)
 · split at h
   · simp only [Bool.and_eq_true, List.all_eq_true] at h
     exact .inr ⟨by assumption, h.2.1, h.2.2.2.1, h.2.2.2.2⟩
   · cases h
theorem nstL_drop : ∀ {l : List Step} {i : Nat} (h : i < l.length), Step.nstL (l.drop i) = l[i].nst + Step.nstL (l.drop (i + 1)) := by
 intro l i h
 rw [List.drop_eq_getElem_cons h, Step.nstL]
end Go.Proofs.Ytacclfgmgphljaa.Dx
