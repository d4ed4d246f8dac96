/- Env; the reference's size, steps, Ties. -/
import Derived.Test.YtacclfgmgphljaaGreatRn
set_option linter.all false
namespace Go.Proofs.YtacclfgmgphljaaGreat.Dx
open Go Go.RowKit
set_option maxRecDepth 100000
set_option maxHeartbeats 8000000
def Env.good (x : Env) : Bool := inR 0 7 x.distance && (inR 0 4000 x.field && inR 0 1 x.short)
theorem Env_meets (x : Env) : Meets Tryz.prog 34 [x.d] fun d => d = iD (if x.good then 0 else 1) := by
 refine enter tok {} Tryz.func34 rfl (by kernel_rfl) Tryz.ntmps34 (by simp) fun B0 W0 V0 lent g0 => ?_
 ((conv => whnf); repeat' (refine Z rfl ?_; conv => whnf))
 repeat' ((first | (intro hlq; (try simp only [SL] at hlq)) | refine Meets.k (within_meets _ _ [_]) ?_ | ((refine Kh (fun hb => ?_) fun hb => ?_) <;> (try simp only [BL] at hb)) | refine Ka ?_ | refine Kb ?_ | refine Kc (hd := rfl) (e := ?_) | refine Kc (hd := Cond.cells_eq _) (e := ?_) | refine Kd (e := ?_) | refine Kl rfl ?_ | fail) <;> ((conv => whnf); repeat' (refine Z rfl ?_; conv => whnf)))
 all_goals refine ⟨congrArg iD ?_⟩
 all_goals simp_all [Env.good]
/-! the size of steps, as the reference counts -/
mutual
def Step.siz : Step → Int → Int × Int
 | ⟨_, _, c, t, e⟩, dp => (1 + (if t ≠ [] ∧ dp > 15 then (1000, 1000) else Step.sizL t (dp + 1) 0 0).1 + (if e ≠ [] ∧ dp > 15 then (1000, 1000) else Step.sizL e (dp + 1) 0 0).1,
    (if t ≠ [] ∧ dp > 15 then (1000, 1000) else Step.sizL t (dp + 1) 0 0).2 + (if e ≠ [] ∧ dp > 15 then (1000, 1000) else Step.sizL e (dp + 1) 0 0).2 + (if c.isZero then 0 else c.conds 0))
def Step.sizL : List Step → Int → Int → Int → Int × Int
 | [], _, n, m => (n, m)
 | s :: ss, dp, n, m => if n ≤ 64 ∧ m ≤ 256 then Step.sizL ss dp (n + (s.siz dp).1) (m + (s.siz dp).2) else (n, m)
end
def sizR (l : List Step) (dp : Int) : Int × Int := if l ≠ [] ∧ dp > 16 then (1000, 1000) else Step.sizL l dp 0 0
theorem Step.siz_eq (s : Step) (dp : Int) : s.siz dp = (1 + (sizR s.th (dp + 1)).1 + (sizR s.el (dp + 1)).1, (sizR s.th (dp + 1)).2 + (sizR s.el (dp + 1)).2 + (if s.cond.isZero then 0 else s.cond.conds 0)) := by
 obtain ⟨k, b, c, t, e⟩ := s
 simp only [Step.siz, sizR]
 have : (dp + 1 > 16) = (dp > 15) := by apply propext; omega
 simp only [this]
def Law (r : Int × Int) (dp n m : Int) (deep nst ncd : Nat) (dok : Bool) : Prop :=
 (n ≤ r.1 ∧ m ≤ r.2) ∧ (dp + deep ≤ 17 → dok = true → n + nst ≤ 64 → m + ncd ≤ 256 → r.1 = n + nst ∧ r.2 = m + ncd) ∧ (r.1 ≤ 64 → r.2 ≤ 256 → dp + deep ≤ 17 ∧ dok = true ∧ n + nst ≤ 64 ∧ m + ncd ≤ 256)
abbrev LawL (l : List Step) (dp n m : Int) : Prop := Law (Step.sizL l dp n m) dp n m (Step.deepL l) (Step.nstL l) (Step.ncdL l) (Step.dokL l)
theorem deepL_pos {l : List Step} (h : l ≠ []) : 1 ≤ Step.deepL l := by cases l with | nil => exact absurd rfl h | cons x t => simp only [Step.deepL]; omega
theorem sizR_of {l : List Step} {dp : Int} (h1 : dp ≤ 17) (H : dp ≤ 16 → LawL l dp 0 0) : Law (sizR l dp) dp 0 0 (Step.deepL l) (Step.nstL l) (Step.ncdL l) (Step.dokL l) := by
 unfold sizR
 by_cases h : l ≠ [] ∧ dp > 16
 · rw [if_pos h]
   have := deepL_pos h.1
   exact ⟨by omega, fun h2 => by omega, fun h2 => absurd h2 (by decide)⟩
 · rw [if_neg h]
   by_cases h2 : dp ≤ 16
   · exact H h2
   · have : l = [] := Classical.byContradiction fun e => h ⟨e, by omega⟩
     subst this
     exact ⟨⟨by simp [Step.sizL], by simp [Step.sizL]⟩, fun _ _ _ _ => by simp [Step.sizL, Step.nstL, Step.ncdL], fun _ _ => ⟨by simp only [Step.deepL]; omega, rfl, by simp [Step.nstL], by simp [Step.ncdL]⟩⟩
mutual
theorem siz_law : ∀ (s : Step) (dp : Int), 0 ≤ dp → dp ≤ 16 → Law (s.siz dp) dp 0 0 (1 + s.deep) s.nst s.ncd s.dok ∧ 1 ≤ (s.siz dp).1
 | ⟨k, b, c, t, e⟩, dp, h0, h1 => by
   have ht := sizR_of (l := t) (dp := dp + 1) (by omega) fun h => sizL_law t (dp + 1) 0 0 (by omega) h (by omega) (by omega)
   have he := sizR_of (l := e) (dp := dp + 1) (by omega) fun h => sizL_law e (dp + 1) 0 0 (by omega) h (by omega) (by omega)
   have hc := conds_law c 0 (by omega) (by omega)
   rw [Step.siz_eq]
   have hcn : ((if c.isZero then 0 else c.conds 0) = c.num ∧ c.dok = true ∧ c.num ≤ 256) ∨ ((if c.isZero then (0 : Int) else c.conds 0) > 256 ∧ ¬ (c.dok = true ∧ c.num ≤ 256)) := by
    by_cases hz : c.isZero = true
    · left; simp [hz, Cond.num, Cond.dok]
    · simp only [hz, if_false, Cond.num, Cond.dok, Bool.false_or, Bool.false_eq_true, decide_eq_true_eq]
      by_cases hg : c.deep ≤ 16 ∧ c.total ≤ 256
      · left; refine ⟨by omega, hg.1, hg.2⟩
      · right; refine ⟨by omega, hg⟩
   simp only [Step.deep, Step.nst, Step.ncd, Step.dok, Law] at *
   obtain ⟨⟨t1, t2⟩, t3, t4⟩ := ht
   obtain ⟨⟨e1, e2⟩, e3, e4⟩ := he
   refine ⟨⟨⟨by omega, by split <;> omega⟩, fun g1 g2 g3 g4 => ?_, fun g1 g2 => ?_⟩, by omega⟩
   · simp only [Bool.and_eq_true] at g2
     have t3 := t3 (by omega) g2.2.1 (by omega) (by omega)
     have e3 := e3 (by omega) g2.2.2 (by omega) (by omega)
     rcases hcn with ⟨a1, a2, a3⟩ | ⟨_, a2⟩
     · rw [a1]; omega
     · exact absurd ⟨g2.1, by omega⟩ a2
   · rcases hcn with ⟨a1, a2, a3⟩ | ⟨a1, _⟩
     · rw [a1] at g2
       have t4 := t4 (by omega) (by omega)
       have e4 := e4 (by omega) (by omega)
       have t3 := t3 t4.1 t4.2.1 t4.2.2.1 t4.2.2.2
       have e3 := e3 e4.1 e4.2.1 e4.2.2.1 e4.2.2.2
       exact ⟨by omega, by simp [a2, t4.2.1, e4.2.1], by omega, by omega⟩
     · omega
theorem sizL_law : ∀ (l : List Step) (dp n m : Int), 0 ≤ dp → dp ≤ 16 → 0 ≤ n → 0 ≤ m → LawL l dp n m
 | [], dp, n, m, h0, h1, h2, h3 => by
   simp only [LawL, Law, Step.sizL, Step.deepL, Step.dokL, Step.nstL, Step.ncdL]
   exact ⟨by omega, fun _ _ _ _ => by omega, fun _ _ => ⟨by omega, trivial, by omega, by omega⟩⟩
 | s :: ss, dp, n, m, h0, h1, h2, h3 => by
   obtain ⟨hs, hs1⟩ := siz_law s dp h0 h1
   obtain ⟨⟨s1, s2⟩, s3, s4⟩ := hs
   simp only [LawL, Law, Step.sizL, Step.deepL, Step.dokL, Step.nstL, Step.ncdL]
   by_cases h : n ≤ 64 ∧ m ≤ 256
   · rw [if_pos h]
     obtain ⟨⟨l1, l2⟩, l3, l4⟩ := sizL_law ss dp (n + (s.siz dp).1) (m + (s.siz dp).2) h0 h1 (by omega) (by omega)
     refine ⟨by omega, fun g1 g2 g3 g4 => ?_, fun g1 g2 => ?_⟩
     · simp only [Bool.and_eq_true] at g2
       have s3 := s3 (by omega) g2.1 (by omega) (by omega)
       have l3 := l3 (by omega) g2.2 (by omega) (by omega)
       omega
     · have l4 := l4 g1 g2
       have s4 := s4 (by omega) (by omega)
       have s3 := s3 s4.1 s4.2.1 s4.2.2.1 s4.2.2.2
       exact ⟨by omega, by simp [s4.2.1, l4.2.1], by omega, by omega⟩
   · rw [if_neg h]
     exact ⟨by omega, fun g1 g2 g3 g4 => by omega, fun g1 g2 => by omega⟩
end
theorem sizR_law (l : List Step) : ((sizR l 0).1 > 64 ∨ (sizR l 0).2 > 256) ↔ fitsF (formsS l) 0 0 0 = false := by
 obtain ⟨h1, h2, h3⟩ := sizR_of (l := l) (dp := 0) (by omega) fun h => sizL_law l 0 0 0 (by omega) h (by omega) (by omega)
 obtain ⟨k1, k2, k3, k4⟩ := F_S l
 cases hf : fitsF (formsS l) 0 0 0 with
 | true =>
   simp only [fitsF, Bool.or_eq_true, Bool.and_eq_true, decide_eq_true_eq] at hf
   rw [k1, k2, k3, k4] at hf
   simp only [Bool.true_eq_false, iff_false, not_or]
   rcases hf with hf | ⟨⟨a, b⟩, c, d⟩
   · have : l = [] := by simpa [formsS] using hf
     subst this
     simp [sizR, Step.sizL]
   · have := h2 (by omega) b (by omega) (by omega)
     omega
 | false =>
   simp only [iff_true]
   refine Classical.byContradiction fun h => ?_
   have := h3 (by omega) (by omega)
   simp only [fitsF, Bool.or_eq_false_iff, Bool.and_eq_false_iff, decide_eq_false_iff_not] at hf
   rw [k1, k2, k3, k4, this.2.1] at hf
   rcases hf.2 with (h4 | h4) | h4 | h4
   · omega
   · cases h4
   · omega
   · omega
/-! walks -/
def sB : Nat → Int
 | 0 => 10000
 | k + 1 => 2 * sB k + 10000
theorem sB_le : ∀ k, k < 18 → 10000 ≤ sB k ∧ sB k ≤ 10000000000 := by decide
theorem szS_mem {l : List Step} {s : Step} (h : s ∈ l) : 1 + s.sz ≤ Step.szL l := by
 have := szF_mem (l := formsS l) (f := .ofS s) (List.mem_map_of_mem h)
 rw [szF_S] at this
 exact this
theorem size_meets (l : List Step) (dp : Int) (k : Nat) (hd : 0 ≤ dp) (hk : dp + k = 17) : Meets Tryz.prog 43 [.sl (l.map Step.cells), iD dp] fun d => ∃ n m : Int, d = .tup [iD n, iD m] ∧ (n, m) = sizR l dp ∧ (0 ≤ n ∧ n ≤ sB k) ∧ 0 ≤ m ∧ m ≤ sB k := by
 have hB := sB_le k (by omega)
 refine enter tok {} Tryz.func43 rfl (by kernel_rfl) Tryz.ntmps43 (by simp) fun B0 W0 V0 lent g0 => ?_
 ((conv => whnf); repeat' (refine Z rfl ?_; conv => whnf))
 repeat' ((first | (intro hlq; (try simp only [SL] at hlq)) | ((refine Kh (fun hb => ?_) fun hb => ?_) <;> (try simp only [BL] at hb)) | refine Ka ?_ | refine Kb ?_ | refine Kc (hd := rfl) (e := ?_) | refine Kc (hd := Cond.cells_eq _) (e := ?_) | refine Kd (e := ?_) | refine Kl rfl ?_ | fail) <;> ((conv => whnf); repeat' (refine Z rfl ?_; conv => whnf)))
 · refine ⟨_, _, rfl, ?_, by omega, by omega⟩
   have hne : l ≠ [] := by rintro rfl; simp at *
   rw [sizR, if_pos ⟨hne, by omega⟩]
 all_goals
  have hno : sizR l dp = Step.sizL l dp 0 0 := by
   rw [sizR, if_neg]
   rintro ⟨h1, h2⟩
   have := List.length_pos_iff.2 h1
   omega
  refine loop_upd tok {} [] (X := Nat × Int × Int) (fun x => [(8, iB x.1), (6, iB x.2.1), (7, iB x.2.2)]) (fun _ => []) [] (fun x => x.1 ≤ l.length ∧ Step.sizL (l.drop x.1) dp x.2.1 x.2.2 = Step.sizL l dp 0 0 ∧ (0 ≤ x.2.1 ∧ x.2.1 ≤ sB k) ∧ 0 ≤ x.2.2 ∧ x.2.2 ≤ sB k) (fun x => l.length - x.1) (0, 0, 0) ?_
  ((conv => whnf); repeat' (refine Z rfl ?_; conv => whnf))
  refine And.intro ?_ ⟨⟨by omega, by simp, ⟨by dsimp only; omega, by dsimp only; omega⟩, by dsimp only; omega, by dsimp only; omega⟩, fun x hΦ => ?_⟩
  · exact Kr
  obtain ⟨i, n, m⟩ := x
  obtain ⟨hi, heq, hn, hm⟩ := hΦ
  dsimp only at hi heq hn hm
  ((conv => whnf); repeat' (refine Z rfl ?_; conv => whnf))
  repeat' ((first | (intro hlq; (try simp only [SL] at hlq)) | ((refine Kh (fun hb => ?_) fun hb => ?_) <;> (try simp only [BL] at hb)) | refine Ka ?_ | refine Kb ?_ | refine Kc (hd := rfl) (e := ?_) | refine Kc (hd := Step.cells_eq _) (e := ?_) | refine Kd (e := ?_) | refine Kl rfl ?_ | fail) <;> ((conv => whnf); repeat' (refine Z rfl ?_; conv => whnf)))
  all_goals try (exfalso; omega)
  all_goals try (refine ⟨n, m, rfl, ?_, hn, hm⟩; rw [hno, ← heq]; first | (rw [List.drop_eq_nil_of_le (by omega), Step.sizL]; done) | (rw [List.drop_eq_getElem_cons (by omega), Step.sizL, if_neg (by omega)]; done))
 have h1' : i < l.length := by omega
 obtain ⟨k', rfl⟩ : ∃ k', k = k' + 1 := ⟨k - 1, by omega⟩
 have hsB : sB (k' + 1) = 2 * sB k' + 10000 := rfl
 have hB' := sB_le k' (by omega)
 have hstep := Step.siz_eq l[i] dp
 refine (size_meets l[i].th (dp + 1) k' (by omega) (by omega)).mono fun d hd => ?_
 obtain ⟨a, b, rfl, hab, ha, hb'⟩ := hd
 ((conv => whnf); repeat' (refine Z rfl ?_; conv => whnf))
 repeat' ((first | (intro hlq; (try simp only [SL] at hlq)) | refine Ka ?_ | refine Kb ?_ | refine Kc (hd := rfl) (e := ?_) | refine Kc (hd := Step.cells_eq _) (e := ?_) | refine Kd (e := ?_) | refine Kl rfl ?_ | fail) <;> ((conv => whnf); repeat' (refine Z rfl ?_; conv => whnf)))
 refine (size_meets l[i].el (dp + 1) k' (by omega) (by omega)).mono fun d hd => ?_
 obtain ⟨c, e, rfl, hce, hc, he⟩ := hd
 rw [← hab, ← hce] at hstep
 ((conv => whnf); repeat' (refine Z rfl ?_; conv => whnf))
 repeat' ((first | (intro hlq; (try simp only [SL] at hlq)) | refine Ka ?_ | refine Kb ?_ | refine Kc (hd := rfl) (e := ?_) | refine Kc (hd := Step.cells_eq _) (e := ?_) | refine Kd (e := ?_) | refine Kl rfl ?_ | fail) <;> ((conv => whnf); repeat' (refine Z rfl ?_; conv => whnf)))
 refine Meets.k (zero_meets l[i].cond) ?_
 ((conv => whnf); repeat' (refine Z rfl ?_; conv => whnf))
 refine ⟨fun hz => ?_, fun hz => ?_⟩ <;> (try simp only [BL] at hz) <;> ((conv => whnf); repeat' (refine Z rfl ?_; conv => whnf))
 · repeat' ((first | (intro hlq; (try simp only [SL] at hlq)) | refine Ka ?_ | refine Kb ?_ | refine Kc (hd := rfl) (e := ?_) | refine Kc (hd := Step.cells_eq _) (e := ?_) | refine Kd (e := ?_) | refine Kl rfl ?_ | fail) <;> ((conv => whnf); repeat' (refine Z rfl ?_; conv => whnf)))
   refine (conditions_meets l[i].cond 0 (by omega)).mono fun d hd => ?_
   obtain ⟨rfl, hv0, hv1⟩ := hd
   ((conv => whnf); repeat' (refine Z rfl ?_; conv => whnf))
   repeat' ((first | (intro hlq; (try simp only [SL] at hlq)) | refine Ka ?_ | refine Kb ?_ | refine Kc (hd := rfl) (e := ?_) | refine Kc (hd := Step.cells_eq _) (e := ?_) | refine Kd (e := ?_) | refine Kl rfl ?_ | fail) <;> ((conv => whnf); repeat' (refine Z rfl ?_; conv => whnf)))
   refine ⟨⟨(i + 1, n + 1 + a + c, m + b + e + l[i].cond.conds 0), ?_, ⟨by dsimp only; omega, ?_, ⟨by dsimp only; omega, by dsimp only; omega⟩, by dsimp only; omega, by dsimp only; omega⟩, by dsimp only; omega⟩⟩
   · exact Kr
   dsimp only
   rw [← heq, List.drop_eq_getElem_cons h1', Step.sizL, if_pos (by omega), hstep]
   simp only [hz, if_false, Bool.false_eq_true]
   congr 1 <;> omega
 · repeat' ((first | (intro hlq; (try simp only [SL] at hlq)) | refine Ka ?_ | refine Kb ?_ | refine Kc (hd := rfl) (e := ?_) | refine Kc (hd := Step.cells_eq _) (e := ?_) | refine Kd (e := ?_) | refine Kl rfl ?_ | fail) <;> ((conv => whnf); repeat' (refine Z rfl ?_; conv => whnf)))
   refine ⟨⟨(i + 1, n + 1 + a + c, m + b + e), ?_, ⟨by dsimp only; omega, ?_, ⟨by dsimp only; omega, by dsimp only; omega⟩, by dsimp only; omega, by dsimp only; omega⟩, by dsimp only; omega⟩⟩
   · exact Kr
   dsimp only
   rw [← heq, List.drop_eq_getElem_cons h1', Step.sizL, if_pos (by omega), hstep]
   simp only [hz, if_true]
   congr 1 <;> omega
termination_by Step.szL l
decreasing_by
 all_goals
  have h2 := szS_mem (List.getElem_mem h1')
  have h3 := l[i].sz_eq
  omega
end Go.Proofs.YtacclfgmgphljaaGreat.Dx
/- The reference's steps, Ties; Few, FewCond. -/
namespace Go.Proofs.YtacclfgmgphljaaGreat.Dx
open Go Go.RowKit
set_option maxRecDepth 100000
set_option maxHeartbeats 8000000
def Cond.rok (c : Cond) : Bool := decide (c.total ≤ 256 ∧ c.deep ≤ 16) && c.valid
def Cond.errno (c : Cond) : Int := if c.total ≤ 256 ∧ c.deep ≤ 16 then (if c.valid then 0 else 71) else 2
theorem errno_zero (c : Cond) : c.errno = 0 ↔ c.rok = true := by
 unfold Cond.errno Cond.rok
 by_cases h : c.total ≤ 256 ∧ c.deep ≤ 16 <;> by_cases h2 : c.valid = true <;> simp [h, h2]
theorem rCond (c : Cond) : Meets Tryz.prog 86 [c.d] fun d => d = iD c.errno := rCond_meets c
mutual
def Step.rvalid : Step → Bool
 | ⟨k, b, c, t, e⟩ =>
   if k = 1 then inR 1 5 b && (c.isZero && (decide ((t.length : Int) = 0) && decide ((e.length : Int) = 0)))
   else if k = 2 then decide (b = 0) && (c.rok && (decide (0 < (t.length : Int)) && (Step.rvalidL t && Step.rvalidL e)))
   else false
def Step.rvalidL : List Step → Bool
 | [] => true
 | c :: cs => c.rvalid && Step.rvalidL cs
end
theorem Step.rvalidL_eq : ∀ cs : List Step, Step.rvalidL cs = cs.all Step.rvalid := by
 intro cs
 induction cs with
 | nil => rfl
 | cons c cs ih => simp [Step.rvalidL, ih]
theorem Step.rvalid_eq (s : Step) : s.rvalid = if s.kind = 1 then inR 1 5 s.crit && (s.cond.isZero && (decide ((s.th.length : Int) = 0) && decide ((s.el.length : Int) = 0)))
 else if s.kind = 2 then decide (s.crit = 0) && (s.cond.rok && (decide (0 < (s.th.length : Int)) && (s.th.all Step.rvalid && s.el.all Step.rvalid)))
 else false := by obtain ⟨k, b, c, t, e⟩ := s; simp only [Step.rvalid, Step.rvalidL_eq]
theorem isZero_valid {c : Cond} (h : c.isZero = true) : c.valid = false := by
 simp only [Cond.isZero, Bool.and_eq_true, decide_eq_true_eq] at h
 rw [Cond.valid_eq]
 simp [h.1]
mutual
theorem rvalid_law : ∀ s : Step, s.dok = true → s.ncd ≤ 256 → s.rvalid = s.valid
 | ⟨k, b, c, t, e⟩, h1, h2 => by
   simp only [Step.dok, Step.ncd, Bool.and_eq_true] at h1 h2
   have ht := rvalidL_law t h1.2.1 (by omega)
   have he := rvalidL_law e h1.2.2 (by omega)
   have hc : c.rok = c.valid := by
    unfold Cond.rok
    by_cases hz : c.isZero = true
    · rw [isZero_valid hz, Bool.and_false]
    · have h3 := h1.1
      simp only [Cond.dok, hz, Bool.false_or, decide_eq_true_eq, Bool.false_eq_true] at h3
      simp only [Cond.num, hz, if_false, Bool.false_eq_true] at h2
      rw [decide_eq_true ⟨by omega, h3⟩, Bool.true_and]
   simp only [Step.rvalid, Step.valid, ht, he, hc]
theorem rvalidL_law : ∀ l : List Step, Step.dokL l = true → Step.ncdL l ≤ 256 → Step.rvalidL l = Step.validL l
 | [], _, _ => rfl
 | s :: ss, h1, h2 => by
   simp only [Step.dokL, Step.ncdL, Bool.and_eq_true] at h1 h2
   simp only [Step.rvalidL, Step.validL, rvalid_law s h1.1 (by omega), rvalidL_law ss h1.2 (by omega)]
end
theorem rsteps_meets (l : List Step) : Meets Tryz.prog 55 [.sl (l.map Step.cells)] fun d => d = bD (l.all Step.rvalid) := by
 refine enter tok {} Tryz.func55 rfl (by kernel_rfl) Tryz.ntmps55 (by simp) fun B0 W0 V0 lent g0 => ?_
 ((conv => whnf); repeat' (refine Z rfl ?_; conv => whnf))
 refine loop_upd tok {} [] (X := Nat) (fun i => [(3, iB i)]) (fun _ => []) [4] (fun i => i ≤ l.length ∧ ∀ x ∈ l.take i, x.rvalid = true) (fun i => l.length - i) 0 ?_
 ((conv => whnf); repeat' (refine Z rfl ?_; conv => whnf))
 refine And.intro ?_ ⟨⟨by omega, by simp⟩, fun i hΦ => ?_⟩
 · exact Kr
 obtain ⟨hi, hp⟩ := hΦ
 ((conv => whnf); repeat' (refine Z rfl ?_; conv => whnf))
 repeat' ((first | (intro hlq; (try simp only [SL] at hlq)) | refine Ka ?_ | refine Kb ?_ | refine Kc (hd := rfl) (e := ?_) | refine Kc (hd := Cond.cells_eq _) (e := ?_) | refine Kd (e := ?_) | refine Kl rfl ?_ | fail) <;> ((conv => whnf); repeat' (refine Z rfl ?_; conv => whnf)))
 refine ⟨fun h1 => ?_, fun h1 => ?_⟩ <;> (try simp only [BL] at h1) <;> ((conv => whnf); repeat' (refine Z rfl ?_; conv => whnf))
 · have h1' : i < l.length := by omega
   have hs := Step.rvalid_eq l[i]
   refine ⟨_, ⟨by omega, getD_at _ h1' (Step.cells_eq _), rfl⟩, ?_⟩
   ((conv => whnf); repeat' (refine Z rfl ?_; conv => whnf))
   repeat' ((first | (intro hlq; (try simp only [SL] at hlq)) | refine Meets.k (zero_meets l[i].cond) ?_ | refine Meets.k (rCond l[i].cond) ?_ | refine Meets.k (rsteps_meets l[i].th) ?_ | refine Meets.k (rsteps_meets l[i].el) ?_ | ((refine Kh (fun hb => ?_) fun hb => ?_) <;> (try simp only [BL] at hb)) | refine Ka ?_ | refine Kb ?_ | refine Kc (hd := rfl) (e := ?_) | refine Kc (hd := Cond.cells_eq _) (e := ?_) | refine Kd (e := ?_) | refine Kl rfl ?_ | fail) <;> ((conv => whnf); repeat' (refine Z rfl ?_; conv => whnf)))
   all_goals first
    | (refine ⟨congrArg bD ?_⟩
       rw [all_false (List.getElem_mem h1')]
       rw [hs]
       clear hs hp
       simp_all [inR, errno_zero]
       done)
    | (refine ⟨congrArg bD ?_⟩
       rw [all_false (List.getElem_mem h1')]
       rw [hs]
       clear hs hp
       simp_all [inR, errno_zero]
       omega)
    | (refine ⟨⟨i + 1, ?_, ⟨by omega, take_snoc h1' hp ?_⟩, by omega⟩⟩
       · exact Kr
       rw [hs]
       clear hs hp
       simp_all [inR, errno_zero]
       done)
    | (refine ⟨⟨i + 1, ?_, ⟨by omega, take_snoc h1' hp ?_⟩, by omega⟩⟩
       · exact Kr
       rw [hs]
       clear hs hp
       simp_all [inR, errno_zero]
       omega)
    | (refine ⟨congrArg bD ?_⟩
       rw [all_false (List.getElem_mem h1')]
       rw [hs, if_neg (by assumption), if_pos (by assumption), hb]
       simp)
    | (refine ⟨⟨i + 1, ?_, ⟨by omega, take_snoc h1' hp ?_⟩, by omega⟩⟩
       · exact Kr
       have a1 : l[i].th.all Step.rvalid = true := by assumption
       rw [hs, if_neg (by assumption), if_pos (by assumption), hb, a1, (errno_zero _).1 (by omega), decide_eq_true (by omega : l[i].crit = 0), decide_eq_true (by omega : 0 < (l[i].th.length : Int))]
       rfl)
 · refine ⟨congrArg bD ?_⟩
   rw [all_true (by omega) hp]
termination_by Step.szL l
decreasing_by
 all_goals
  have h2 := szS_mem (List.getElem_mem h1')
  have h3 := l[i].sz_eq
  omega
theorem rTies_meets (l : List Step) : Meets Tryz.prog 28 [.sl (l.map Step.cells)] fun d => d = iD (if fitsF (formsS l) 0 0 0 then (if l ≠ [] ∧ l.all Step.valid then 0 else 71) else 2) := by
 have hl := sizR_law l
 refine enter tok {} Tryz.func28 rfl (by kernel_rfl) Tryz.ntmps28 (by simp) fun B0 W0 V0 lent g0 => ?_
 ((conv => whnf); repeat' (refine Z rfl ?_; conv => whnf))
 refine (size_meets l 0 17 (by omega) (by omega)).mono fun d hd => ?_
 obtain ⟨n, m, rfl, hnm, hn, hm⟩ := hd
 rw [← hnm] at hl
 ((conv => whnf); repeat' (refine Z rfl ?_; conv => whnf))
 repeat' ((first | (intro hlq; (try simp only [SL] at hlq)) | refine Meets.k (rsteps_meets l) ?_ | ((refine Kh (fun hb => ?_) fun hb => ?_) <;> (try simp only [BL] at hb)) | refine Ka ?_ | refine Kb ?_ | refine Kc (hd := rfl) (e := ?_) | refine Kc (hd := Cond.cells_eq _) (e := ?_) | refine Kd (e := ?_) | refine Kl rfl ?_ | fail) <;> ((conv => whnf); repeat' (refine Z rfl ?_; conv => whnf)))
 all_goals refine ⟨congrArg iD ?_⟩
 · rw [hl.1 (.inl (by assumption))]; rfl
 · rw [hl.1 (.inr (by assumption))]; rfl
 all_goals
  have hf : fitsF (formsS l) 0 0 0 = true := by
   cases hf : fitsF (formsS l) 0 0 0 with
   | true => rfl
   | false =>
     have := hl.2 hf
     dsimp only at this
     omega
  have hv : l.all Step.rvalid = l.all Step.valid := by
   rw [← Step.rvalidL_eq, ← Step.validL_eq]
   have hf2 := hf
   obtain ⟨k1, k2, k3, k4⟩ := F_S l
   simp only [fitsF, Bool.or_eq_true, Bool.and_eq_true, decide_eq_true_eq, k1, k2, k3, k4] at hf2
   rcases hf2 with h | h
   · have : l = [] := by simpa [formsS] using h
     subst this; rfl
   · exact rvalidL_law l h.1.2 (by omega)
  rw [if_pos hf]
 · rw [if_neg]
   rintro ⟨h, _⟩
   have := List.length_pos_iff.2 h
   omega
 · rw [if_neg]
   rintro ⟨_, h⟩
   rw [← hv, hb] at h
   cases h
 · rw [if_pos]
   exact ⟨List.length_pos_iff.1 (by omega), by rw [← hv]; exact hb⟩
end Go.Proofs.YtacclfgmgphljaaGreat.Dx
/- Holds, in the code and in the reference; Few, FewCond. -/
namespace Go.Proofs.YtacclfgmgphljaaGreat.Dx
open Go Go.RowKit
set_option maxRecDepth 100000
set_option maxHeartbeats 8000000
theorem Few_meets (l : List Step) : Meets Tryz.prog 16 [.sl (l.map Step.cells)] fun d => ∃ b, d = bD b := by
 refine enter tok {} Tryz.func16 rfl (by kernel_rfl) Tryz.ntmps16 (by simp) fun B0 W0 V0 lent g0 => ?_
 ((conv => whnf); repeat' (refine Z rfl ?_; conv => whnf))
 refine (size_meets l 0 17 (by omega) (by omega)).mono fun d hd => ?_
 obtain ⟨n, m, rfl, hnm, hn, hm⟩ := hd
 ((conv => whnf); repeat' (refine Z rfl ?_; conv => whnf))
 repeat' ((first | (intro hlq; (try simp only [SL] at hlq)) | ((refine Kh (fun hb => ?_) fun hb => ?_) <;> (try simp only [BL] at hb)) | refine Ka ?_ | refine Kb ?_ | refine Kc (hd := rfl) (e := ?_) | refine Kc (hd := Cond.cells_eq _) (e := ?_) | refine Kd (e := ?_) | refine Kl rfl ?_ | fail) <;> ((conv => whnf); repeat' (refine Z rfl ?_; conv => whnf)))
 all_goals exact ⟨_, rfl⟩
def Env.value (x : Env) (v : Int) : Int := if v = 1 then x.distance else if v = 2 then x.field else x.short
theorem value_meets (v : Int) (x : Env) : Meets Tryz.prog 82 [iD v, x.d] fun d => d = iD (x.value v) := by
 refine enter tok {} Tryz.func82 rfl (by kernel_rfl) Tryz.ntmps82 (by simp) fun B0 W0 V0 lent g0 => ?_
 ((conv => whnf); repeat' (refine Z rfl ?_; conv => whnf))
 repeat' ((first | (intro hlq; (try simp only [SL] at hlq)) | ((refine Kh (fun hb => ?_) fun hb => ?_) <;> (try simp only [BL] at hb)) | refine Ka ?_ | refine Kb ?_ | refine Kc (hd := rfl) (e := ?_) | refine Kc (hd := Cond.cells_eq _) (e := ?_) | refine Kd (e := ?_) | refine Kl rfl ?_ | fail) <;> ((conv => whnf); repeat' (refine Z rfl ?_; conv => whnf)))
 all_goals refine ⟨congrArg iD ?_⟩
 all_goals simp_all [Env.value]
theorem rvalue_meets (v : Int) (x : Env) : Meets Tryz.prog 107 [iD v, x.d] fun d => d = iD (x.value v) := by
 refine enter tok {} Tryz.func107 rfl (by kernel_rfl) Tryz.ntmps107 (by simp) fun B0 W0 V0 lent g0 => ?_
 ((conv => whnf); repeat' (refine Z rfl ?_; conv => whnf))
 repeat' ((first | (intro hlq; (try simp only [SL] at hlq)) | ((refine Kh (fun hb => ?_) fun hb => ?_) <;> (try simp only [BL] at hb)) | refine Ka ?_ | refine Kb ?_ | refine Kc (hd := rfl) (e := ?_) | refine Kc (hd := Cond.cells_eq _) (e := ?_) | refine Kd (e := ?_) | refine Kl rfl ?_ | fail) <;> ((conv => whnf); repeat' (refine Z rfl ?_; conv => whnf)))
 all_goals refine ⟨congrArg iD ?_⟩
 all_goals simp_all [Env.value]
mutual
def Cond.holds (x : Env) : Cond → Bool
 | ⟨k, v, n, ps⟩ => if k = 1 then decide (x.value v ≥ n) else if k = 4 then (match ps with | [] => false | p :: _ => !Cond.holds x p) else if k = 3 then Cond.anyL x ps else Cond.allL x ps
def Cond.anyL (x : Env) : List Cond → Bool
 | [] => false
 | c :: cs => Cond.holds x c || Cond.anyL x cs
def Cond.allL (x : Env) : List Cond → Bool
 | [] => true
 | c :: cs => Cond.holds x c && Cond.allL x cs
end
theorem anyL_eq (x : Env) : ∀ l : List Cond, Cond.anyL x l = l.any (Cond.holds x) := by
 intro l; induction l with | nil => rfl | cons c l ih => simp [Cond.anyL, ih]
theorem allL_eq (x : Env) : ∀ l : List Cond, Cond.allL x l = l.all (Cond.holds x) := by
 intro l; induction l with | nil => rfl | cons c l ih => simp [Cond.allL, ih]
theorem holds_eq (x : Env) (c : Cond) : c.holds x = if c.kind = 1 then decide (x.value c.var ≥ c.n) else if c.kind = 4 then (match c.parts with | [] => false | p :: _ => !Cond.holds x p) else if c.kind = 3 then c.parts.any (Cond.holds x) else c.parts.all (Cond.holds x) := by
 obtain ⟨k, v, n, ps⟩ := c; cases ps <;> simp only [Cond.holds, anyL_eq, allL_eq]
/-- what a valid condition is -/
theorem valid_cases {c : Cond} (h : c.valid = true) : c.kind = 1 ∨ (c.kind = 4 ∧ ∃ p, c.parts = [p] ∧ p.valid = true) ∨ ((c.kind = 2 ∨ c.kind = 3) ∧ ∀ p ∈ c.parts, p.valid = true) := by
 rw [Cond.valid_eq] at h
 split at h
 · exact .inl (by assumption)
 · split at h
   · simp only [Bool.and_eq_true, decide_eq_true_eq] at h
     have hl : c.parts.length = 1 := by omega
     obtain ⟨p, hp⟩ := List.length_eq_one_iff.1 hl
     refine .inr (.inl ⟨by assumption, p, hp, ?_⟩)
     have := h.2.2
     rw [hp] at this
     simpa using this
   · split at h
     · simp only [Bool.and_eq_true, decide_eq_true_eq] at h
       exact .inr (.inr ⟨by assumption, List.all_eq_true.1 h.2.2⟩)
     · cases h
theorem holds_meets (c : Cond) (x : Env) (hv : c.valid = true) : Meets Tryz.prog 52 [c.d, x.d] fun d => d = bD (c.holds x) := by
 have hask : ∀ p, (p ∈ c.parts ∨ c.parts = [p]) → p.valid = true → Meets Tryz.prog 81 ([] ++ ([p.d] ++ [.ptr [iD x.distance, iD x.field, iD x.short] 0])) fun r => r = bD (p.holds x) := by
  intro p hp hpv
  refine enter tok {} Tryz.func81 rfl (by kernel_rfl) Tryz.ntmps81 (by simp) fun B0 W0 V0 lent g0 => ?_
  ((conv => whnf); repeat' (refine Z rfl ?_; conv => whnf))
  have hp' : p ∈ c.parts := by
   rcases hp with h | h
   · exact h
   · rw [h]; simp
  refine Meets.k (holds_meets p x hpv) ?_
  ((conv => whnf); repeat' (refine Z rfl ?_; conv => whnf))
  exact ⟨rfl⟩
 have hh := holds_eq x c
 refine enter tok {} Tryz.func52 rfl (by kernel_rfl) Tryz.ntmps52 (by simp) fun B0 W0 V0 lent g0 => ?_
 ((conv => whnf); repeat' (refine Z rfl ?_; conv => whnf))
 refine ⟨fun h1 => ?_, fun h1 => ?_⟩ <;> (try simp only [BL] at h1) <;> ((conv => whnf); repeat' (refine Z rfl ?_; conv => whnf))
 · refine draw_rule tok (cf := {}) (by kernel_rfl) [.p 0, .p 1, .p 2, .p 4, .p 5, .s 3 [1,2,0], .p 6, .p 7] (by kernel_rfl) ?_
   ((conv => whnf); repeat' (refine Z rfl ?_; conv => whnf))
   refine Meets.k (value_meets c.var x) ?_
   ((conv => whnf); repeat' (refine Z rfl ?_; conv => whnf))
   repeat' ((first | (intro hlq; (try simp only [SL] at hlq)) | refine Ka ?_ | refine Kb ?_ | refine Kc (hd := rfl) (e := ?_) | refine Kc (hd := Cond.cells_eq _) (e := ?_) | refine Kd (e := ?_) | refine Kl rfl ?_ | fail) <;> ((conv => whnf); repeat' (refine Z rfl ?_; conv => whnf)))
   refine ⟨congrArg bD ?_⟩
   rw [hh, if_pos h1]
 refine ⟨fun h2 => ?_, fun h2 => ?_⟩ <;> (try simp only [BL] at h2) <;> ((conv => whnf); repeat' (refine Z rfl ?_; conv => whnf))
 · obtain ⟨p, hp, hpv⟩ : ∃ p, c.parts = [p] ∧ p.valid = true := by
    rcases valid_cases hv with h | ⟨_, h⟩ | ⟨h, _⟩
    · exact absurd h h1
    · exact h
    · omega
   refine draw_rule tok (cf := {}) (by kernel_rfl) [.p 0, .p 1, .p 2, .p 3, .p 4, .s 5 [0,4,3,2,1], .p 6, .p 7] (by kernel_rfl) ?_
   ((conv => whnf); repeat' (refine Z rfl ?_; conv => whnf))
   refine ⟨p.dc, ⟨by omega, by rw [hp]; exact congrArg some (Cond.cells_eq p), rfl⟩, ?_⟩
   ((conv => whnf); repeat' (refine Z rfl ?_; conv => whnf))
   repeat' ((first | (intro hlq; (try simp only [SL] at hlq)) | refine Ka ?_ | refine Kb ?_ | refine Kc (hd := rfl) (e := ?_) | refine Kc (hd := Cond.cells_eq _) (e := ?_) | refine Kd (e := ?_) | refine Kl rfl ?_ | fail) <;> ((conv => whnf); repeat' (refine Z rfl ?_; conv => whnf)))
   refine Meets.k (hask p (.inr hp) hpv) ?_
   ((conv => whnf); repeat' (refine Z rfl ?_; conv => whnf))
   repeat' ((first | (intro hlq; (try simp only [SL] at hlq)) | refine Ka ?_ | refine Kb ?_ | refine Kc (hd := rfl) (e := ?_) | refine Kc (hd := Cond.cells_eq _) (e := ?_) | refine Kd (e := ?_) | refine Kl rfl ?_ | fail) <;> ((conv => whnf); repeat' (refine Z rfl ?_; conv => whnf)))
   refine ⟨congrArg bD ?_⟩
   rw [hh, if_neg h1, if_pos h2, hp]
 have hall : ∀ p ∈ c.parts, p.valid = true := by
  rcases valid_cases hv with h | ⟨h, _⟩ | ⟨_, h⟩
  · exact absurd h h1
  · exact absurd h h2
  · exact h
 refine ⟨fun h3 => ?_, fun h3 => ?_⟩ <;> (try simp only [BL] at h3) <;> ((conv => whnf); repeat' (refine Z rfl ?_; conv => whnf))
 · refine Meets.k (contains_cond c.parts 81 [] [.ptr [iD x.distance, iD x.field, iD x.short] 0] (Cond.holds x) fun p hp => hask p (.inl hp) (hall p hp)) ?_
   ((conv => whnf); repeat' (refine Z rfl ?_; conv => whnf))
   refine ⟨congrArg bD ?_⟩
   rw [hh, if_neg h1, if_neg h2, if_pos h3]
 · refine Meets.k (contains_cond c.parts 84 [] [.ptr [.fn 81 [] [.ptr [iD x.distance, iD x.field, iD x.short] 0]] 0] (fun p => !Cond.holds x p) fun p hp => ?_) ?_
   · refine enter tok {} Tryz.func84 rfl (by kernel_rfl) Tryz.ntmps84 (by simp) fun B0 W0 V0 lent g0 => ?_
     ((conv => whnf); repeat' (refine Z rfl ?_; conv => whnf))
     refine Meets.k (hask p (.inl hp) (hall p hp)) ?_
     ((conv => whnf); repeat' (refine Z rfl ?_; conv => whnf))
     exact ⟨rfl⟩
   ((conv => whnf); repeat' (refine Z rfl ?_; conv => whnf))
   refine ⟨congrArg bD ?_⟩
   rw [hh, if_neg h1, if_neg h2, if_neg h3, ← List.not_all_eq_any_not, Bool.not_not]
termination_by SizeOf.sizeOf c
decreasing_by all_goals exact Cond.size_part hp'
theorem rholds_meets (c : Cond) (x : Env) (hv : c.valid = true) : Meets Tryz.prog 102 [c.d, x.d] fun d => d = bD (c.holds x) := by
 have hh := holds_eq x c
 refine enter tok {} Tryz.func102 rfl (by kernel_rfl) Tryz.ntmps102 (by simp) fun B0 W0 V0 lent g0 => ?_
 ((conv => whnf); repeat' (refine Z rfl ?_; conv => whnf))
 refine ⟨fun h1 => ?_, fun h1 => ?_⟩ <;> (try simp only [BL] at h1) <;> ((conv => whnf); repeat' (refine Z rfl ?_; conv => whnf))
 · refine draw_rule tok (cf := {}) (by kernel_rfl) [.p 0, .p 1, .p 2, .p 4, .p 5, .s 3 [1,2,0], .p 6, .p 7] (by kernel_rfl) ?_
   ((conv => whnf); repeat' (refine Z rfl ?_; conv => whnf))
   refine Meets.k (rvalue_meets c.var x) ?_
   ((conv => whnf); repeat' (refine Z rfl ?_; conv => whnf))
   repeat' ((first | (intro hlq; (try simp only [SL] at hlq)) | refine Ka ?_ | refine Kb ?_ | refine Kc (hd := rfl) (e := ?_) | refine Kc (hd := Cond.cells_eq _) (e := ?_) | refine Kd (e := ?_) | refine Kl rfl ?_ | fail) <;> ((conv => whnf); repeat' (refine Z rfl ?_; conv => whnf)))
   refine ⟨congrArg bD ?_⟩
   rw [hh, if_pos h1]
 refine ⟨fun h2 => ?_, fun h2 => ?_⟩ <;> (try simp only [BL] at h2) <;> ((conv => whnf); repeat' (refine Z rfl ?_; conv => whnf))
 · obtain ⟨p, hp, hpv⟩ : ∃ p, c.parts = [p] ∧ p.valid = true := by
    rcases valid_cases hv with h | ⟨_, h⟩ | ⟨h, _⟩
    · exact absurd h h1
    · exact h
    · omega
   have hp' : p ∈ c.parts := by rw [hp]; simp
   refine draw_rule tok (cf := {}) (by kernel_rfl) [.p 0, .p 1, .p 2, .p 3, .p 4, .s 5 [3,4,2,1,0], .p 6, .p 7] (by kernel_rfl) ?_
   ((conv => whnf); repeat' (refine Z rfl ?_; conv => whnf))
   refine ⟨p.dc, ⟨by omega, by rw [hp]; exact congrArg some (Cond.cells_eq p), rfl⟩, ?_⟩
   ((conv => whnf); repeat' (refine Z rfl ?_; conv => whnf))
   repeat' ((first | (intro hlq; (try simp only [SL] at hlq)) | refine Ka ?_ | refine Kb ?_ | refine Kc (hd := rfl) (e := ?_) | refine Kc (hd := Cond.cells_eq _) (e := ?_) | refine Kd (e := ?_) | refine Kl rfl ?_ | fail) <;> ((conv => whnf); repeat' (refine Z rfl ?_; conv => whnf)))
   refine Meets.k (rholds_meets p x hpv) ?_
   ((conv => whnf); repeat' (refine Z rfl ?_; conv => whnf))
   repeat' ((first | (intro hlq; (try simp only [SL] at hlq)) | refine Ka ?_ | refine Kb ?_ | refine Kc (hd := rfl) (e := ?_) | refine Kc (hd := Cond.cells_eq _) (e := ?_) | refine Kd (e := ?_) | refine Kl rfl ?_ | fail) <;> ((conv => whnf); repeat' (refine Z rfl ?_; conv => whnf)))
   refine ⟨congrArg bD ?_⟩
   rw [hh, if_neg h1, if_pos h2, hp]
 have hall : (c.kind = 2 ∨ c.kind = 3) ∧ ∀ p ∈ c.parts, p.valid = true := by
  rcases valid_cases hv with h | ⟨h, _⟩ | h
  · exact absurd h h1
  · exact absurd h h2
  · exact h
 refine loop_upd tok {} [] (X := Nat) (fun i => [(5, iB i)]) (fun _ => []) [] (fun i => i ≤ c.parts.length ∧ ∀ p ∈ c.parts.take i, Cond.holds x p = decide (c.kind = 2)) (fun i => c.parts.length - i) 0 ?_
 ((conv => whnf); repeat' (refine Z rfl ?_; conv => whnf))
 refine And.intro ?_ ⟨⟨by omega, by simp⟩, fun i hΦ => ?_⟩
 · exact Kr
 obtain ⟨hi, hp⟩ := hΦ
 ((conv => whnf); repeat' (refine Z rfl ?_; conv => whnf))
 repeat' ((first | (intro hlq; (try simp only [SL] at hlq)) | refine Ka ?_ | refine Kb ?_ | refine Kc (hd := rfl) (e := ?_) | refine Kc (hd := Cond.cells_eq _) (e := ?_) | refine Kd (e := ?_) | refine Kl rfl ?_ | fail) <;> ((conv => whnf); repeat' (refine Z rfl ?_; conv => whnf)))
 refine ⟨fun h3 => ?_, fun h3 => ?_⟩ <;> (try simp only [BL] at h3) <;> ((conv => whnf); repeat' (refine Z rfl ?_; conv => whnf))
 · have h1' : i < c.parts.length := by omega
   have hp' := List.getElem_mem h1'
   refine draw_rule tok (cf := {}) (by kernel_rfl) [.p 0, .p 1, .p 2, .p 3, .p 4, .p 5, .p 7, .p 8, .p 9, .s 6 [4,5,3,1,2,0], .p 10] (by kernel_rfl) ?_
   ((conv => whnf); repeat' (refine Z rfl ?_; conv => whnf))
   repeat' ((first | (intro hlq; (try simp only [SL] at hlq)) | refine Ka ?_ | refine Kb ?_ | refine Kc (hd := rfl) (e := ?_) | refine Kc (hd := Cond.cells_eq _) (e := ?_) | refine Kd (e := ?_) | refine Kl rfl ?_ | fail) <;> ((conv => whnf); repeat' (refine Z rfl ?_; conv => whnf)))
   refine Meets.k (rholds_meets c.parts[i] x (hall.2 _ hp')) ?_
   ((conv => whnf); repeat' (refine Z rfl ?_; conv => whnf))
   repeat' ((first | (intro hlq; (try simp only [SL] at hlq)) | refine Ka ?_ | refine Kb ?_ | refine Kc (hd := rfl) (e := ?_) | refine Kc (hd := Cond.cells_eq _) (e := ?_) | refine Kd (e := ?_) | refine Kl rfl ?_ | fail) <;> ((conv => whnf); repeat' (refine Z rfl ?_; conv => whnf)))
   refine ⟨fun h4 => ?_, fun h4 => ?_⟩ <;> (try simp only [BL] at h4) <;> ((conv => whnf); repeat' (refine Z rfl ?_; conv => whnf))
   · refine ⟨congrArg bD ?_⟩
     rw [hh, if_neg h1, if_neg h2]
     rcases hall.1 with h5 | h5
     · have h6 : Cond.holds x c.parts[i] = false := by simpa [h5] using h4
       rw [if_neg (by omega), all_false hp' h6, decide_eq_false (by omega)]
     · have h6 : Cond.holds x c.parts[i] = true := by simpa [h5] using h4
       rw [if_pos h5, List.any_eq_true.2 ⟨_, hp', h6⟩, decide_eq_true h5]
   · repeat' ((first | (intro hlq; (try simp only [SL] at hlq)) | refine Ka ?_ | refine Kb ?_ | refine Kc (hd := rfl) (e := ?_) | refine Kc (hd := Cond.cells_eq _) (e := ?_) | refine Kd (e := ?_) | refine Kl rfl ?_ | fail) <;> ((conv => whnf); repeat' (refine Z rfl ?_; conv => whnf)))
     refine ⟨⟨i + 1, ?_, ⟨by omega, take_snoc h1' hp (Classical.byContradiction h4)⟩, by omega⟩⟩
     repeat' (first | exact True.intro | exact rfl | refine And.intro ?_ ?_)
 · refine ⟨congrArg bD ?_⟩
   rw [List.take_of_length_le (by omega)] at hp
   rw [hh, if_neg h1, if_neg h2]
   rcases hall.1 with h5 | h5
   · rw [if_neg (by omega), decide_eq_true h5, List.all_eq_true.2 fun p hm => by rw [hp p hm, decide_eq_true h5]]
   · rw [if_pos h5, decide_eq_false (by omega), any_take fun p hm => by rw [hp p hm, decide_eq_false (by omega)]]
termination_by SizeOf.sizeOf c
decreasing_by all_goals exact Cond.size_part hp'
end Go.Proofs.YtacclfgmgphljaaGreat.Dx
/- Direct in the reference; lists of numbers. -/
namespace Go.Proofs.YtacclfgmgphljaaGreat.Dx
open Go Go.RowKit
set_option maxRecDepth 100000
set_option maxHeartbeats 8000000
def hasI (l : List Int) (n : Int) : Bool := l.any fun x => decide (x = n)
theorem In_meets (l : List Int) (n : Int) : Meets Tryz.prog 59 [.sl (l.map icells), iD n] fun d => d = bD (hasI l n) := by
 refine enter tok {} Tryz.func59 rfl (by kernel_rfl) Tryz.ntmps59 (by simp) fun B0 W0 V0 lent g0 => ?_
 ((conv => whnf); repeat' (refine Z rfl ?_; conv => whnf))
 refine loop_upd tok {} [] (X := Nat) (fun i => [(5, iB i)]) (fun _ => []) [] (fun i => i ≤ l.length ∧ ∀ x ∈ l.take i, decide (x = n) = false) (fun i => l.length - i) 0 ?_
 ((conv => whnf); repeat' (refine Z rfl ?_; conv => whnf))
 refine And.intro ?_ ⟨⟨by omega, by simp⟩, fun i hΦ => ?_⟩
 · exact Kr
 obtain ⟨hi, hp⟩ := hΦ
 ((conv => whnf); repeat' (refine Z rfl ?_; conv => whnf))
 repeat' ((first | (intro hlq; (try simp only [SL] at hlq)) | refine Ka ?_ | refine Kb ?_ | refine Kc (hd := rfl) (e := ?_) | refine Kc (hd := Cond.cells_eq _) (e := ?_) | refine Kd (e := ?_) | refine Kl rfl ?_ | fail) <;> ((conv => whnf); repeat' (refine Z rfl ?_; conv => whnf)))
 refine ⟨fun h1 => ?_, fun h1 => ?_⟩ <;> (try simp only [BL] at h1) <;> ((conv => whnf); repeat' (refine Z rfl ?_; conv => whnf))
 · have h1' : i < l.length := by omega
   repeat' ((first | (intro hlq; (try simp only [SL] at hlq)) | refine Ka ?_ | refine Kb ?_ | refine Kc (hd := rfl) (e := ?_) | refine Kc (hd := icells_eq _) (e := ?_) | refine Kd (e := ?_) | refine Kl rfl ?_ | fail) <;> ((conv => whnf); repeat' (refine Z rfl ?_; conv => whnf)))
   refine ⟨fun h2 => ?_, fun h2 => ?_⟩ <;> (try simp only [BL] at h2) <;> ((conv => whnf); repeat' (refine Z rfl ?_; conv => whnf))
   · refine ⟨congrArg bD ?_⟩
     rw [hasI, List.any_eq_true.2 ⟨_, List.getElem_mem h1', decide_eq_true h2⟩]
   · repeat' ((first | (intro hlq; (try simp only [SL] at hlq)) | refine Ka ?_ | refine Kb ?_ | refine Kc (hd := rfl) (e := ?_) | refine Kc (hd := Cond.cells_eq _) (e := ?_) | refine Kd (e := ?_) | refine Kl rfl ?_ | fail) <;> ((conv => whnf); repeat' (refine Z rfl ?_; conv => whnf)))
     refine ⟨⟨i + 1, ?_, ⟨by omega, take_snoc h1' hp (decide_eq_false h2)⟩, by omega⟩⟩
     repeat' (first | exact True.intro | exact rfl | refine And.intro ?_ ?_)
 · refine ⟨congrArg bD ?_⟩
   rw [List.take_of_length_le (by omega)] at hp
   rw [hasI, any_take hp]
theorem Index_meets (l : List Int) (n : Int) : Meets Tryz.prog 85 [.sl (l.map icells), iD n] fun d => ∃ r : Int, d = iD r ∧ decide (r ≥ 0) = hasI l n := by
 refine enter tok {} Tryz.func85 rfl (by kernel_rfl) Tryz.ntmps85 (by simp) fun B0 W0 V0 lent g0 => ?_
 ((conv => whnf); repeat' (refine Z rfl ?_; conv => whnf))
 repeat' ((first | (intro hlq; (try simp only [SL] at hlq)) | refine Ka ?_ | refine Kb ?_ | refine Kc (hd := rfl) (e := ?_) | refine Kc (hd := Cond.cells_eq _) (e := ?_) | refine Kd (e := ?_) | refine Kl rfl ?_ | fail) <;> ((conv => whnf); repeat' (refine Z rfl ?_; conv => whnf)))
 refine loop_upd tok {} [] (X := Nat) (fun i => [(8, iB i)]) (fun _ => []) [] (fun i => i ≤ l.length ∧ ∀ x ∈ l.take i, decide (x = n) = false) (fun i => l.length - i) 0 ?_
 ((conv => whnf); repeat' (refine Z rfl ?_; conv => whnf))
 refine And.intro ?_ ⟨⟨by omega, by simp⟩, fun i hΦ => ?_⟩
 · exact Kr
 obtain ⟨hi, hp⟩ := hΦ
 ((conv => whnf); repeat' (refine Z rfl ?_; conv => whnf))
 refine ⟨fun h1 => ?_, fun h1 => ?_⟩ <;> (try simp only [BL] at h1) <;> ((conv => whnf); repeat' (refine Z rfl ?_; conv => whnf))
 · have h1' : i < l.length := by omega
   repeat' ((first | (intro hlq; (try simp only [SL] at hlq)) | refine Ka ?_ | refine Kb ?_ | refine Kc (hd := rfl) (e := ?_) | refine Kc (hd := icells_eq _) (e := ?_) | refine Kd (e := ?_) | refine Kl rfl ?_ | fail) <;> ((conv => whnf); repeat' (refine Z rfl ?_; conv => whnf)))
   refine ⟨fun h2 => ?_, fun h2 => ?_⟩ <;> (try simp only [BL] at h2) <;> ((conv => whnf); repeat' (refine Z rfl ?_; conv => whnf))
   · refine ⟨_, rfl, ?_⟩
     rw [hasI, List.any_eq_true.2 ⟨_, List.getElem_mem h1', decide_eq_true h2.symm⟩]
     simp
   · repeat' ((first | (intro hlq; (try simp only [SL] at hlq)) | refine Ka ?_ | refine Kb ?_ | refine Kc (hd := rfl) (e := ?_) | refine Kc (hd := Cond.cells_eq _) (e := ?_) | refine Kd (e := ?_) | refine Kl rfl ?_ | fail) <;> ((conv => whnf); repeat' (refine Z rfl ?_; conv => whnf)))
     refine ⟨⟨i + 1, ?_, ⟨by omega, take_snoc h1' hp (decide_eq_false fun e => h2 e.symm)⟩, by omega⟩⟩
     repeat' (first | exact True.intro | exact rfl | refine And.intro ?_ ?_)
 · refine ⟨_, rfl, ?_⟩
   rw [List.take_of_length_le (by omega)] at hp
   rw [hasI, any_take hp]
   decide
theorem Contains_meets (l : List Int) (n : Int) : Meets Tryz.prog 53 [.sl (l.map icells), iD n] fun d => d = bD (hasI l n) := by
 refine enter tok {} Tryz.func53 rfl (by kernel_rfl) Tryz.ntmps53 (by simp) fun B0 W0 V0 lent g0 => ?_
 ((conv => whnf); repeat' (refine Z rfl ?_; conv => whnf))
 refine (Index_meets l n).mono fun d hd => ?_
 obtain ⟨r, rfl, hr⟩ := hd
 ((conv => whnf); repeat' (refine Z rfl ?_; conv => whnf))
 refine ⟨?_⟩
 rw [hr]
theorem Same_meets (a b : List Int) : Meets Tryz.prog 13 [.sl (a.map icells), .sl (b.map icells)] fun d => d = bD (decide (a = b)) := by
 refine enter tok {} Tryz.func13 rfl (by kernel_rfl) Tryz.ntmps13 (by simp) fun B0 W0 V0 lent g0 => ?_
 ((conv => whnf); repeat' (refine Z rfl ?_; conv => whnf))
 repeat' ((first | (intro hlq; (try simp only [SL] at hlq)) | ((refine Kh (fun hb => ?_) fun hb => ?_) <;> (try simp only [BL] at hb)) | refine Ka ?_ | refine Kb ?_ | refine Kc (hd := rfl) (e := ?_) | refine Kc (hd := Cond.cells_eq _) (e := ?_) | refine Kd (e := ?_) | refine Kl rfl ?_ | fail) <;> ((conv => whnf); repeat' (refine Z rfl ?_; conv => whnf)))
 · refine ⟨congrArg bD ?_⟩
   rw [decide_eq_false]
   rintro rfl
   omega
 have hlen : a.length = b.length := by omega
 refine loop_upd tok {} [] (X := Nat) (fun i => [(5, iB i)]) (fun _ => []) [] (fun i => i ≤ a.length ∧ a.take i = b.take i) (fun i => a.length - i) 0 ?_
 ((conv => whnf); repeat' (refine Z rfl ?_; conv => whnf))
 refine And.intro ?_ ⟨⟨by omega, by simp⟩, fun i hΦ => ?_⟩
 · exact Kr
 obtain ⟨hi, hp⟩ := hΦ
 ((conv => whnf); repeat' (refine Z rfl ?_; conv => whnf))
 repeat' ((first | (intro hlq; (try simp only [SL] at hlq)) | refine Ka ?_ | refine Kb ?_ | refine Kc (hd := rfl) (e := ?_) | refine Kc (hd := Cond.cells_eq _) (e := ?_) | refine Kd (e := ?_) | refine Kl rfl ?_ | fail) <;> ((conv => whnf); repeat' (refine Z rfl ?_; conv => whnf)))
 refine ⟨fun h1 => ?_, fun h1 => ?_⟩ <;> (try simp only [BL] at h1) <;> ((conv => whnf); repeat' (refine Z rfl ?_; conv => whnf))
 · have h1' : i < a.length := by omega
   refine draw_rule tok (cf := {}) (by kernel_rfl) [.p 0, .p 1, .p 2, .p 3, .p 4, .p 5, .p 6, .p 7, .p 8] (by kernel_rfl) ?_
   ((conv => whnf); repeat' (refine Z rfl ?_; conv => whnf))
   repeat' ((first | (intro hlq; (try simp only [SL] at hlq)) | refine Ka ?_ | refine Kb ?_ | refine Kc (hd := rfl) (e := ?_) | refine Kc (hd := icells_eq _) (e := ?_) | refine Kd (e := ?_) | refine Kl rfl ?_ | fail) <;> ((conv => whnf); repeat' (refine Z rfl ?_; conv => whnf)))
   refine ⟨fun h2 => ?_, fun h2 => ?_⟩ <;> (try simp only [BL] at h2) <;> ((conv => whnf); repeat' (refine Z rfl ?_; conv => whnf))
   · refine ⟨congrArg bD ?_⟩
     rw [decide_eq_false]
     rintro rfl
     exact h2 rfl
   · repeat' ((first | (intro hlq; (try simp only [SL] at hlq)) | refine Ka ?_ | refine Kb ?_ | refine Kc (hd := rfl) (e := ?_) | refine Kc (hd := Cond.cells_eq _) (e := ?_) | refine Kd (e := ?_) | refine Kl rfl ?_ | fail) <;> ((conv => whnf); repeat' (refine Z rfl ?_; conv => whnf)))
     refine ⟨⟨i + 1, ?_, ⟨by omega, ?_⟩, by omega⟩⟩
     · exact Kr
     rw [List.take_succ_eq_append_getElem h1', List.take_succ_eq_append_getElem (by omega : i < b.length), hp, Classical.byContradiction h2]
 · refine ⟨congrArg bD ?_⟩
   rw [List.take_of_length_le (by omega), List.take_of_length_le (by omega)] at hp
   rw [decide_eq_true hp]
/-! what valid steps apply -/
mutual
def Step.app (x : Env) : Step → List Int → List Int
 | ⟨k, b, c, t, e⟩, acc => if k = 2 then (if c.holds x then Step.appL x t acc else Step.appL x e acc) else (if hasI acc b then acc else acc ++ [b])
def Step.appL (x : Env) : List Step → List Int → List Int
 | [], acc => acc
 | s :: ss, acc => Step.appL x ss (Step.app x s acc)
end
theorem app_eq (x : Env) (s : Step) (acc : List Int) : Step.app x s acc = if s.kind = 2 then (if s.cond.holds x then Step.appL x s.th acc else Step.appL x s.el acc) else (if hasI acc s.crit then acc else acc ++ [s.crit]) := by
 obtain ⟨k, b, c, t, e⟩ := s; simp only [Step.app]
mutual
theorem app_len (x : Env) : ∀ (s : Step) (acc : List Int), (Step.app x s acc).length ≤ acc.length + s.nst
 | ⟨k, b, c, t, e⟩, acc => by
   have h1 := appL_len x t acc
   have h2 := appL_len x e acc
   simp only [Step.app, Step.nst]
   split
   · split <;> omega
   · split
     · omega
     · rw [List.length_append, List.length_singleton]; omega
theorem appL_len (x : Env) : ∀ (l : List Step) (acc : List Int), (Step.appL x l acc).length ≤ acc.length + Step.nstL l
 | [], acc => by simp [Step.appL]
 | s :: ss, acc => by
   have h1 := app_len x s acc
   have h2 := appL_len x ss (Step.app x s acc)
   simp only [Step.appL, Step.nstL]
   omega
end
theorem valid_kind {s : Step} (h : s.valid = true) : (s.kind = 1) ∨ (s.kind = 2 ∧ s.cond.valid = true ∧ (∀ z ∈ s.th, z.valid = true) ∧ ∀ z ∈ s.el, z.valid = true) := by
 rw [Step.valid_eq] at h
 split at h
 · exact .inl (by assumption)
 · split at h
   · simp only [Bool.and_eq_true, List.all_eq_true] at h
     exact .inr ⟨by assumption, h.2.1, h.2.2.2.1, h.2.2.2.2⟩
   · cases h
theorem nstL_drop : ∀ {l : List Step} {i : Nat} (h : i < l.length), Step.nstL (l.drop i) = l[i].nst + Step.nstL (l.drop (i + 1)) := by
 intro l i h
 rw [List.drop_eq_getElem_cons h, Step.nstL]
end Go.Proofs.YtacclfgmgphljaaGreat.Dx
