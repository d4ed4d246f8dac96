/- typing: counting forms. -/
import Derived.Test.YtacclfgmgphljaaGreatRm
set_option linter.all false
namespace Go.Proofs.YtacclfgmgphljaaGreat.Dx
open Go Go.RowKit
set_option maxRecDepth 100000
set_option maxHeartbeats 4000000
mutual
def Cond.total : Cond → Nat
 | ⟨_, _, _, ps⟩ => 1 + Cond.totalL ps
def Cond.totalL : List Cond → Nat
 | [] => 0
 | c :: cs => c.total + Cond.totalL cs
end
mutual
def Cond.deep : Cond → Nat
 | ⟨_, _, _, ps⟩ => Cond.deepL ps
def Cond.deepL : List Cond → Nat
 | [] => 0
 | c :: cs => max (1 + c.deep) (Cond.deepL cs)
end
def Cond.num (c : Cond) : Nat := if c.isZero then 0 else c.total
def Cond.dok (c : Cond) : Bool := c.isZero || decide (c.deep ≤ 16)
mutual
def Step.nst : Step → Nat
 | ⟨_, _, _, t, e⟩ => 1 + (Step.nstL t + Step.nstL e)
def Step.nstL : List Step → Nat
 | [] => 0
 | c :: cs => c.nst + Step.nstL cs
end
mutual
def Step.ncd : Step → Nat
 | ⟨_, _, c, t, e⟩ => c.num + (Step.ncdL t + Step.ncdL e)
def Step.ncdL : List Step → Nat
 | [] => 0
 | c :: cs => c.ncd + Step.ncdL cs
end
mutual
def Step.deep : Step → Nat
 | ⟨_, _, _, t, e⟩ => max (Step.deepL t) (Step.deepL e)
def Step.deepL : List Step → Nat
 | [] => 0
 | c :: cs => max (1 + c.deep) (Step.deepL cs)
end
mutual
def Step.dok : Step → Bool
 | ⟨_, _, c, t, e⟩ => c.dok && (Step.dokL t && Step.dokL e)
def Step.dokL : List Step → Bool
 | [] => true
 | c :: cs => c.dok && Step.dokL cs
end
theorem Cond.total_eq (c : Cond) : c.total = 1 + Cond.totalL c.parts := by obtain ⟨k, v, n, ps⟩ := c; rfl
theorem Cond.deep_eq (c : Cond) : c.deep = Cond.deepL c.parts := by obtain ⟨k, v, n, ps⟩ := c; rfl
theorem Step.nst_eq (s : Step) : s.nst = 1 + (Step.nstL s.th + Step.nstL s.el) := by obtain ⟨k, b, c, t, e⟩ := s; rfl
theorem Step.ncd_eq (s : Step) : s.ncd = s.cond.num + (Step.ncdL s.th + Step.ncdL s.el) := by obtain ⟨k, b, c, t, e⟩ := s; rfl
theorem Step.deep_eq (s : Step) : s.deep = max (Step.deepL s.th) (Step.deepL s.el) := by obtain ⟨k, b, c, t, e⟩ := s; rfl
theorem Step.dok_eq (s : Step) : s.dok = (s.cond.dok && (Step.dokL s.th && Step.dokL s.el)) := by obtain ⟨k, b, c, t, e⟩ := s; rfl
def Form.nst : Form → Nat | .ofC _ => 0 | .ofS s => s.nst
def Form.ncd : Form → Nat | .ofC c => c.total | .ofS s => s.ncd
def Form.deep : Form → Nat | .ofC c => c.deep | .ofS s => s.deep
def Form.dok : Form → Bool | .ofC _ => true | .ofS s => s.dok
def stF : List Form → Nat | [] => 0 | f :: l => f.nst + stF l
def cdF : List Form → Nat | [] => 0 | f :: l => f.ncd + cdF l
def dpF : List Form → Nat | [] => 0 | f :: l => max (1 + f.deep) (dpF l)
def okF : List Form → Bool | [] => true | f :: l => f.dok && okF l
theorem stF_append (a b : List Form) : stF (a ++ b) = stF a + stF b := by induction a with | nil => simp [stF] | cons x a ih => simp [stF, ih]; omega
theorem cdF_append (a b : List Form) : cdF (a ++ b) = cdF a + cdF b := by induction a with | nil => simp [cdF] | cons x a ih => simp [cdF, ih]; omega
theorem dpF_append (a b : List Form) : dpF (a ++ b) = max (dpF a) (dpF b) := by induction a with | nil => simp [dpF] | cons x a ih => (simp [dpF, ih]; try omega)
theorem okF_append (a b : List Form) : okF (a ++ b) = (okF a && okF b) := by induction a with | nil => simp [okF] | cons x a ih => simp [okF, ih, Bool.and_assoc]
theorem F_C (cs : List Cond) : stF (formsC cs) = 0 ∧ cdF (formsC cs) = Cond.totalL cs ∧ dpF (formsC cs) = Cond.deepL cs ∧ okF (formsC cs) = true := by
 induction cs with
 | nil => simp [formsC, stF, cdF, dpF, okF, Cond.totalL, Cond.deepL]
 | cons c cs ih =>
   simp only [formsC, List.map_cons, stF, cdF, dpF, okF, Cond.totalL, Cond.deepL, Form.nst, Form.ncd, Form.deep, Form.dok] at ih ⊢
   obtain ⟨h1, h2, h3, h4⟩ := ih
   exact ⟨by omega, by omega, by omega, by simp [h4]⟩
theorem F_S (cs : List Step) : stF (formsS cs) = Step.nstL cs ∧ cdF (formsS cs) = Step.ncdL cs ∧ dpF (formsS cs) = Step.deepL cs ∧ okF (formsS cs) = Step.dokL cs := by
 induction cs with
 | nil => simp [formsS, stF, cdF, dpF, okF, Step.nstL, Step.ncdL, Step.deepL, Step.dokL]
 | cons c cs ih =>
   simp only [formsS, List.map_cons, stF, cdF, dpF, okF, Step.nstL, Step.ncdL, Step.deepL, Step.dokL, Form.nst, Form.ncd, Form.deep, Form.dok] at ih ⊢
   obtain ⟨h1, h2, h3, h4⟩ := ih
   exact ⟨by omega, by omega, by omega, by rw [h4]⟩
theorem dpF_pos {l : List Form} (h : l ≠ []) : 1 ≤ dpF l := by cases l with | nil => exact absurd rfl h | cons x l => simp only [dpF]; omega
/-- are forms few enough, and not too deep, if some have been counted before? -/
def fitsF (l : List Form) (d s c : Int) : Bool := decide (l = []) || (decide (d + dpF l ≤ 17) && okF l && (decide (s + stF l ≤ 64) && decide (c + cdF l ≤ 256)))
/-- the first i are counted -/
structure Cnt (l : List Form) (d s0 c0 : Int) (i : Nat) (s c : Int) : Prop where
 le : i ≤ l.length
 st : s = s0 + stF (l.take i)
 cd : c = c0 + cdF (l.take i)
 fit : i = 0 ∨ (d + dpF (l.take i) ≤ 17 ∧ okF (l.take i) = true ∧ s ≤ 64 ∧ c ≤ 256)
theorem split_at {l : List Form} {i : Nat} (h : i < l.length) : l = l.take i ++ (l[i] :: l.drop (i + 1)) := by
 conv => lhs; rw [← List.take_append_drop i l, List.drop_eq_getElem_cons h]
/-- one more that fits -/
theorem Cnt.next {l : List Form} {d s0 c0 : Int} {i : Nat} {s c : Int} (h : Cnt l d s0 c0 i s c) (hi : i < l.length) (hd : d ≤ 16) (h1 : d + (1 + l[i].deep : Nat) ≤ 17) (h2 : l[i].dok = true) (h3 : s + l[i].nst ≤ 64) (h4 : c + l[i].ncd ≤ 256) :
 Cnt l d s0 c0 (i + 1) (s + l[i].nst) (c + l[i].ncd) := by
 have ht : l.take (i + 1) = l.take i ++ [l[i]] := List.take_succ_eq_append_getElem hi
 obtain ⟨a, b, e, f⟩ := h
 refine ⟨by omega, by rw [ht, stF_append, b]; simp [stF]; omega, by rw [ht, cdF_append, e]; simp [cdF]; omega, .inr ⟨?_, ?_, h3, h4⟩⟩
 · rw [ht, dpF_append]
   rcases f with rfl | ⟨f, _⟩
   · simp [dpF]; omega
   · simp only [dpF]; omega
 · rw [ht, okF_append]
   rcases f with rfl | ⟨_, f, _⟩
   · simp [okF, h2]
   · simp [okF, h2, f]
theorem Cnt.bad {l : List Form} {d s0 c0 : Int} {i : Nat} {s c : Int} (h : Cnt l d s0 c0 i s c) (hi : i < l.length) (hb : fitsF [l[i]] d s c = false) : fitsF l d s0 c0 = false := by
 have hs := split_at hi
 obtain ⟨a, b, e, f⟩ := h
 have hne : l ≠ [] := by intro e; subst e; simp at hi
 have h1 : stF l = stF (l.take i) + (l[i].nst + stF (l.drop (i + 1))) := (congrArg stF hs).trans (stF_append _ _)
 have h2 : cdF l = cdF (l.take i) + (l[i].ncd + cdF (l.drop (i + 1))) := (congrArg cdF hs).trans (cdF_append _ _)
 have h3 : dpF l = max (dpF (l.take i)) (max (1 + l[i].deep) (dpF (l.drop (i + 1)))) := (congrArg dpF hs).trans (dpF_append _ _)
 have h4 : okF l = (okF (l.take i) && (l[i].dok && okF (l.drop (i + 1)))) := (congrArg okF hs).trans (okF_append _ _)
 cases hf : fitsF l d s0 c0 with
 | false => rfl
 | true =>
   simp only [fitsF, Bool.or_eq_true, decide_eq_true_eq, Bool.and_eq_true, hne, false_or] at hf
   obtain ⟨⟨g1, g2⟩, g3, g4⟩ := hf
   rw [h4] at g2
   simp only [Bool.and_eq_true] at g2
   have : fitsF [l[i]] d s c = true := by
    simp only [fitsF, Bool.or_eq_true, Bool.and_eq_true, decide_eq_true_eq]
    simp only [stF, cdF, dpF, okF]
    refine .inr ⟨⟨?_, ?_⟩, ?_, ?_⟩
    · omega
    · simp [g2.2.1]
    · omega
    · omega
   rw [this] at hb
   cases hb
theorem Cnt.all {l : List Form} {d s0 c0 : Int} {i : Nat} {s c : Int} (h : Cnt l d s0 c0 i s c) (hi : ¬ i < l.length) : fitsF l d s0 c0 = true ∧ s = s0 + stF l ∧ c = c0 + cdF l := by
 obtain ⟨a, b, e, f⟩ := h
 have ht : l.take i = l := List.take_of_length_le (by omega)
 rw [ht] at b e f
 refine ⟨?_, b, e⟩
 rcases f with rfl | ⟨f1, f2, f3, f4⟩
 · have : l = [] := List.eq_nil_of_length_eq_zero (by omega)
   simp [fitsF, this]
 · simp only [fitsF, Bool.or_eq_true, Bool.and_eq_true, decide_eq_true_eq]
   exact .inr ⟨⟨f1, f2⟩, by omega, by omega⟩
/-- a form fits if it has been counted, and its parts fit -/
theorem fits_C {c : Cond} {d s n : Int} (hd : d ≤ 16) : fitsF [.ofC c] d s n = (decide (s ≤ 64) && decide (n + 1 ≤ 256) && fitsF (formsC c.parts) (d + 1) s (n + 1)) := by
 obtain ⟨h1, h2, h3, h4⟩ := F_C c.parts
 have hp : formsC c.parts ≠ [] → 1 ≤ dpF (formsC c.parts) := dpF_pos
 rw [h3] at hp
 rw [Bool.eq_iff_iff]
 simp only [fitsF, Bool.or_eq_true, Bool.and_eq_true, decide_eq_true_eq]
 simp only [stF, cdF, dpF, okF, Form.nst, Form.ncd, Form.deep, Form.dok, c.total_eq, c.deep_eq, h1, h2, h3, h4, Bool.or_eq_true, Bool.and_eq_true, decide_eq_true_eq, List.cons_ne_nil, false_or, and_true]
 by_cases he : formsC c.parts = []
 · rw [he] at h2 h3
   simp only [cdF, dpF] at h2 h3
   simp only [he, true_or, and_true]
   omega
 · have hp := hp he
   simp only [he, false_or]
   omega
theorem fits_S {x : Step} {d s n : Int} (hd : d ≤ 16) : fitsF [.ofS x] d s n = ((x.cond.isZero || fitsF [.ofC x.cond] 0 (s + 1) n) && (decide (s + 1 ≤ 64) && decide (n + x.cond.num ≤ 256) && fitsF (formsS x.th ++ formsS x.el) (d + 1) (s + 1) (n + x.cond.num))) := by
 obtain ⟨h1, h2, h3, h4⟩ := F_S x.th
 obtain ⟨k1, k2, k3, k4⟩ := F_S x.el
 have hp : formsS x.th ++ formsS x.el ≠ [] → 1 ≤ dpF (formsS x.th ++ formsS x.el) := dpF_pos
 have e1 := stF_append (formsS x.th) (formsS x.el)
 have e2 := cdF_append (formsS x.th) (formsS x.el)
 have e3 := dpF_append (formsS x.th) (formsS x.el)
 have e4 := okF_append (formsS x.th) (formsS x.el)
 rw [h1, k1] at e1
 rw [h2, k2] at e2
 rw [h3, k3] at e3
 rw [h4, k4] at e4
 rw [e3] at hp
 rw [Bool.eq_iff_iff]
 simp only [fitsF, Bool.or_eq_true, Bool.and_eq_true, decide_eq_true_eq]
 simp only [stF, cdF, dpF, okF, Form.nst, Form.ncd, Form.deep, Form.dok, x.nst_eq, x.ncd_eq, x.deep_eq, x.dok_eq, e1, e2, e3, e4, Cond.dok, Cond.num, Bool.or_eq_true, Bool.and_eq_true, decide_eq_true_eq, List.cons_ne_nil, false_or, and_true]
 by_cases hz : x.cond.isZero = true
 · simp only [hz, true_or, true_and, if_true]
   by_cases he : formsS x.th ++ formsS x.el = []
   · rw [he] at e1 e2 e3 e4
     simp only [stF, cdF, dpF, okF] at e1 e2 e3 e4
     have e4' := e4.symm
     simp only [Bool.and_eq_true] at e4'
     simp only [he, true_or, and_true, e4']
     omega
   · have hp := hp he
     simp only [he, false_or]
     constructor
     · rintro ⟨⟨a, b⟩, c, e⟩; exact ⟨⟨by omega, by omega⟩, ⟨by omega, b⟩, by omega, by omega⟩
     · rintro ⟨⟨a, b⟩, ⟨c, e⟩, f, g⟩; exact ⟨⟨by omega, e⟩, by omega, by omega⟩
 · have ht := x.cond.total_eq
   simp only [hz, false_or, if_false, Bool.false_eq_true]
   by_cases he : formsS x.th ++ formsS x.el = []
   · rw [he] at e1 e2 e3 e4
     simp only [stF, cdF, dpF, okF] at e1 e2 e3 e4
     have e4' := e4.symm
     simp only [Bool.and_eq_true] at e4'
     simp only [he, true_or, and_true, e4']
     omega
   · have hp := hp he
     simp only [he, false_or]
     constructor
     · rintro ⟨⟨a, b, b'⟩, c, e⟩; exact ⟨⟨by omega, by omega, by omega⟩, ⟨by omega, by omega⟩, ⟨by omega, b'⟩, by omega, by omega⟩
     · rintro ⟨⟨h, h', h''⟩, ⟨a, b⟩, ⟨c, e⟩, f, g⟩; exact ⟨⟨by omega, by omega, e⟩, by omega, by omega⟩
end Go.Proofs.YtacclfgmgphljaaGreat.Dx
/- The reference's counting of conditions. -/
namespace Go.Proofs.YtacclfgmgphljaaGreat.Dx
open Go Go.RowKit
set_option maxRecDepth 100000
set_option maxHeartbeats 4000000
mutual
def Cond.conds : Cond → Int → Int
 | ⟨_, _, _, ps⟩, depth => if depth > 16 then 1000 else condsL ps depth 1
def condsL : List Cond → Int → Int → Int
 | [], _, n => n
 | c :: cs, depth, n => if n ≤ 256 then condsL cs depth (n + c.conds (depth + 1)) else n
end
theorem conds_eq (c : Cond) (depth : Int) : c.conds depth = if depth > 16 then 1000 else condsL c.parts depth 1 := by
 obtain ⟨k, v, n, ps⟩ := c
 simp only [Cond.conds]
theorem conditions_meets (c : Cond) (depth : Int) (hd : 0 ≤ depth ∧ depth ≤ 17) :
 Meets Tryz.prog 66 [c.d, .i depth] fun d => d = .i (c.conds depth) ∧ 0 ≤ c.conds depth ∧ c.conds depth ≤ 1000 + 256 * (17 - depth) := by
 refine enter tok {} Tryz.func66 rfl (by kernel_rfl) Tryz.ntmps66 (by simp) fun B0 W0 V0 lent g0 => ?_
 ((conv => whnf); repeat' (refine Z rfl ?_; conv => whnf))
 refine ⟨fun h => ?_, fun h => ?_⟩ <;> (try simp only [BL] at h) <;> ((conv => whnf); repeat' (refine Z rfl ?_; conv => whnf))
 · refine ⟨?_⟩
   rw [conds_eq, if_pos h]
   exact ⟨rfl, by omega, by omega⟩
 refine loop_upd tok {} [] (X := Nat × Int) (fun x => [(6, .i x.1), (5, .i x.2)]) (fun _ => []) [] (fun x => x.1 ≤ c.parts.length ∧ condsL (c.parts.drop x.1) depth x.2 = condsL c.parts depth 1 ∧ 0 ≤ x.2 ∧ x.2 ≤ 1000 + 256 * (17 - depth)) (fun x => c.parts.length - x.1) (0, 1) ?_
 ((conv => whnf); repeat' (refine Z rfl ?_; conv => whnf))
 refine And.intro ?_ ⟨⟨by omega, by simp, by omega, by omega⟩, fun x hΦ => ?_⟩
 · exact Kr
 obtain ⟨i, n⟩ := x
 obtain ⟨hi, heq, hn0, hn1⟩ := hΦ
 dsimp only at hi heq hn0 hn1
 ((conv => whnf); repeat' (refine Z rfl ?_; conv => whnf))
 repeat' ((first | (intro hlq; (try simp only [SL] at hlq)) | refine Ka ?_ | refine Kb ?_ | refine Kc (hd := rfl) (e := ?_) | refine Kc (hd := Cond.cells_eq _) (e := ?_) | refine Kd (e := ?_) | refine Kl rfl ?_ | fail) <;> ((conv => whnf); repeat' (refine Z rfl ?_; conv => whnf)))
 refine ⟨fun h1 => ?_, fun h1 => ?_⟩ <;> (try simp only [BL] at h1) <;> ((conv => whnf); repeat' (refine Z rfl ?_; conv => whnf))
 · have h1' : i < c.parts.length := by omega
   refine ⟨fun h2 => ?_, fun h2 => ?_⟩ <;> (try simp only [BL] at h2) <;> ((conv => whnf); repeat' (refine Z rfl ?_; conv => whnf))
   · repeat' ((first | (intro hlq; (try simp only [SL] at hlq)) | refine Ka ?_ | refine Kb ?_ | refine Kc (hd := rfl) (e := ?_) | refine Kc (hd := Cond.cells_eq _) (e := ?_) | refine Kd (e := ?_) | refine Kl rfl ?_ | fail) <;> ((conv => whnf); repeat' (refine Z rfl ?_; conv => whnf)))
     refine (conditions_meets c.parts[i] (depth + 1) (by omega)).mono fun d hd => ?_
     obtain ⟨rfl, hv0, hv1⟩ := hd
     ((conv => whnf); repeat' (refine Z rfl ?_; conv => whnf))
     repeat' ((first | (intro hlq; (try simp only [SL] at hlq)) | refine Ka ?_ | refine Kb ?_ | refine Kc (hd := rfl) (e := ?_) | refine Kc (hd := Cond.cells_eq _) (e := ?_) | refine Kd (e := ?_) | refine Kl rfl ?_ | fail) <;> ((conv => whnf); repeat' (refine Z rfl ?_; conv => whnf)))
     refine ⟨⟨(i + 1, n + c.parts[i].conds (depth + 1)), ?_, ⟨by dsimp only; omega, ?_, by dsimp only; omega, by dsimp only; omega⟩, by dsimp only; omega⟩⟩
     · exact Kr
     · dsimp only
       rw [← heq, List.drop_eq_getElem_cons h1', condsL, if_pos h2]
   · refine ⟨?_⟩
     have : c.conds depth = n := by rw [conds_eq, if_neg h, ← heq, List.drop_eq_getElem_cons h1', condsL, if_neg h2]
     rw [this]
     exact ⟨rfl, hn0, hn1⟩
 · refine ⟨?_⟩
   have : c.conds depth = n := by rw [conds_eq, if_neg h, ← heq, List.drop_eq_nil_of_le (by omega), condsL]
   rw [this]
   exact ⟨rfl, hn0, hn1⟩
termination_by SizeOf.sizeOf c
decreasing_by exact Cond.size_part (List.getElem_mem h1')
end Go.Proofs.YtacclfgmgphljaaGreat.Dx
/- typing: the walk that counts forms; check; Cond; Ties. -/
namespace Go.Proofs.YtacclfgmgphljaaGreat.Dx
open Go Go.RowKit
set_option maxRecDepth 100000
set_option maxHeartbeats 8000000
abbrev cntBox (s c : Int) : List (Nat × Blk) := [(1000, .box [iB s, iB c] 116)]
def CntR (l : List Form) (d s0 c0 : Int) (o : Out) (O' : List (Nat × Blk)) : Prop :=
 ∃ s c, o = .ret (.d (bD (fitsF l d s0 c0))) ∧ O' = cntBox s c ∧ (fitsF l d s0 c0 = true → s = s0 + stF l ∧ c = c0 + cdF l)
theorem CntR.bad {l : List Form} {d s0 c0 s c : Int} (h : fitsF l d s0 c0 = false) : CntR l d s0 c0 (.ret (.d (bD false))) (cntBox s c) :=
 ⟨s, c, by rw [h], rfl, by rw [h]; simp⟩
theorem within_count (l : List Form) (d s0 c0 : Int) (hl : l.length ≤ 1048576 * 2) (hok : ∀ f ∈ l, f.ok) (hd : 0 ≤ d ∧ d ≤ 17) (hs : 0 ≤ s0 ∧ s0 ≤ 65 ∧ (s0 ≤ 64 ∨ stF l = 0)) (hc : 0 ≤ c0 ∧ c0 ≤ 256) :
 MeetsR Tryz.prog 68 [.loc 1000 0, .d (.sl (l.map Form.cells)), iB d] (cntBox s0 c0) (CntR l d s0 c0) := by
 refine enterR tok {rs := [58, 79]} Tryz.func68 rfl (by kernel_rfl) Tryz.ntmps68 (by simp) fun B0 W0 V0 lent g0 => ?_
 ((conv => whnf); repeat' (refine vcC_go tok {rs := [58, 79]} rfl ?_; conv => whnf))
 repeat' ((first | (intro hlq; (try simp only [SL] at hlq)) | ((refine Kh (fun hb => ?_) fun hb => ?_) <;> (try simp only [BL] at hb)) | refine Ka ?_ | refine Kb ?_ | refine Kc (hd := rfl) (e := ?_) | refine Kc (hd := Cond.cells_eq _) (e := ?_) | refine Kd (e := ?_) | refine Kl rfl ?_ | fail) <;> ((conv => whnf); repeat' (refine vcC_go tok {rs := [58, 79]} rfl ?_; conv => whnf)))
 · refine ⟨cntBox s0 c0, .d (bD false), ?_, ⟨CntR.bad ?_⟩⟩
   · exact Kr
   have hne : l ≠ [] := by rintro rfl; simp at *
   have := dpF_pos hne
   simp only [fitsF, Bool.or_eq_false_iff, Bool.and_eq_false_iff, decide_eq_false_iff_not]
   exact ⟨hne, .inl (.inl (by omega))⟩
 · have hd16 : d ≤ 16 := by omega
   refine loop_upd tok {rs := [58, 79]} [] (X := Nat × Int × Int) (fun x => [(21, iB x.1)]) (fun x => cntBox x.2.1 x.2.2) [9, 10, 11] (fun x => Cnt l d s0 c0 x.1 x.2.1 x.2.2) (fun x => l.length - x.1) (0, s0, c0) ?_
   ((conv => whnf); repeat' (refine vcC_go tok {rs := [58, 79]} rfl ?_; conv => whnf))
   refine And.intro ?_ ⟨⟨by omega, by simp [stF], by simp [cdF], .inl rfl⟩, fun x hΦ => ?_⟩
   · exact Kr
   obtain ⟨i, s, c⟩ := x
   dsimp only at hΦ
   have hsb : 0 ≤ s ∧ s ≤ 65 ∧ 0 ≤ c ∧ c ≤ 256 := by
    have h1 := hΦ.st; have h2 := hΦ.cd
    refine ⟨by omega, ?_, by omega, ?_⟩
    · rcases hΦ.fit with rfl | h3
      · simp [stF] at h1; omega
      · omega
    · rcases hΦ.fit with rfl | h3
      · simp [cdF] at h2; omega
      · omega
   ((conv => whnf); repeat' (refine vcC_go tok {rs := [58, 79]} rfl ?_; conv => whnf))
   refine ⟨fun h1 => ?_, fun h1 => ?_⟩ <;> (try simp only [BL] at h1) <;> ((conv => whnf); repeat' (refine vcC_go tok {rs := [58, 79]} rfl ?_; conv => whnf))
   · have h1' : i < l.length := by omega
     cases hf : l[i] with
     | ofC x =>
       have hx : x.ok := by have := hok _ (List.getElem_mem h1'); rw [hf] at this; exact this
       refine ⟨_, ⟨by omega, getD_at Form.cells h1' (ds := [(Form.ofC x).d]) (by rw [hf]), rfl⟩, ?_⟩
       ((conv => whnf); repeat' (refine vcC_go tok {rs := [58, 79]} rfl ?_; conv => whnf))
       have hfc := fits_C (c := x) (s := s) (n := c) hd16
       have hbad : fitsF [.ofC x] d s c = false → fitsF l d s0 c0 = false := fun h => hΦ.bad h1' (by rw [hf]; exact h)
       repeat' ((first | (intro hlq; (try simp only [SL] at hlq)) | ((refine Kh (fun hb => ?_) fun hb => ?_) <;> (try simp only [BL] at hb)) | refine Ka ?_ | refine Kb ?_ | refine Kc (hd := rfl) (e := ?_) | refine Kc (hd := Cond.cells_eq _) (e := ?_) | refine Kd (e := ?_) | refine Kl rfl ?_ | fail) <;> ((conv => whnf); repeat' (refine vcC_go tok {rs := [58, 79]} rfl ?_; conv => whnf)))
       · refine ⟨cntBox s (c + 1), .d (bD false), ?_, ⟨CntR.bad (hbad ?_)⟩⟩
         · exact Kr
         rw [hfc, decide_eq_false (by omega : ¬ s ≤ 64)]; rfl
       · refine ⟨cntBox s (c + 1), .d (bD false), ?_, ⟨CntR.bad (hbad ?_)⟩⟩
         · exact Kr
         rw [hfc, decide_eq_false (by omega : ¬ c + 1 ≤ 256), Bool.and_false]; rfl
       dsimp only at *
       have hxo := Cond.ok_iff.1 hx
       refine ⟨104, methC, ?_⟩
       ((conv => whnf); repeat' (refine vcC_go tok {rs := [58, 79]} rfl ?_; conv => whnf))
       refine Meets.k (partsC_meets x hxo.1) ?_
       ((conv => whnf); repeat' (refine vcC_go tok {rs := [58, 79]} rfl ?_; conv => whnf))
       repeat' ((first | (intro hlq; (try simp only [SL] at hlq)) | refine Ka ?_ | refine Kb ?_ | refine Kc (hd := rfl) (e := ?_) | refine Kc (hd := Cond.cells_eq _) (e := ?_) | refine Kd (e := ?_) | refine Kl rfl ?_ | fail) <;> ((conv => whnf); repeat' (refine vcC_go tok {rs := [58, 79]} rfl ?_; conv => whnf)))
       refine ⟨cntBox s (c + 1), _, ⟨?_, ?_⟩, (within_count (formsC x.parts) (d + 1) s (c + 1) (by simp [formsC]; omega) (ok_formsC hxo.2) (by omega) ⟨by omega, by omega, .inr (F_C x.parts).1⟩ (by omega)).mono ?_⟩
       · exact Kr
       · exact Kr
       rintro o O' ⟨s', c', rfl, rfl, hst⟩
       ((conv => whnf); repeat' (refine vcC_go tok {rs := [58, 79]} rfl ?_; conv => whnf))
       repeat' ((first | (intro hlq; (try simp only [SL] at hlq)) | ((refine Kh (fun hb => ?_) fun hb => ?_) <;> (try simp only [BL] at hb)) | refine Ka ?_ | refine Kb ?_ | refine Kc (hd := rfl) (e := ?_) | refine Kc (hd := Cond.cells_eq _) (e := ?_) | refine Kd (e := ?_) | refine Kl rfl ?_ | fail) <;> ((conv => whnf); repeat' (refine vcC_go tok {rs := [58, 79]} rfl ?_; conv => whnf)))
       · refine ⟨cntBox s' c', .d (bD false), ?_, ⟨CntR.bad (hbad ?_)⟩⟩
         · exact Kr
         rw [hfc, hb, Bool.and_false]
       · obtain ⟨hs', hc'⟩ := hst hb
         obtain ⟨k1, k2, k3, k4⟩ := F_C x.parts
         refine ⟨⟨(i + 1, s', c'), ?_, ?_, by dsimp only; omega⟩⟩
         · exact Kr
         have hn := hΦ.next h1' hd16
         rw [hf] at hn
         simp only [Form.deep, Form.dok, Form.nst, Form.ncd, x.total_eq, x.deep_eq] at hn
         dsimp only
         have hfit := hb
         simp only [fitsF, Bool.or_eq_true, Bool.and_eq_true, decide_eq_true_eq, k1, k2, k3, k4] at hfit
         have e1 : s' = s + (0 : Nat) := by omega
         have e2 : c' = c + (1 + Cond.totalL x.parts : Nat) := by omega
         rw [e1, e2]
         refine hn ?_ trivial ?_ ?_
         · rcases hfit with h | h
           · rw [h] at k3; simp only [dpF] at k3; omega
           · omega
         · omega
         · rcases hfit with h | h
           · rw [h] at k2; simp only [cdF] at k2; omega
           · omega
     | ofS x =>
       have hx : x.ok := by have := hok _ (List.getElem_mem h1'); rw [hf] at this; exact this
       refine ⟨_, ⟨by omega, getD_at Form.cells h1' (ds := [(Form.ofS x).d]) (by rw [hf]), rfl⟩, ?_⟩
       ((conv => whnf); repeat' (refine vcC_go tok {rs := [58, 79]} rfl ?_; conv => whnf))
       have hfc := fits_S (x := x) (s := s) (n := c) hd16
       have hbad : fitsF [.ofS x] d s c = false → fitsF l d s0 c0 = false := fun h => hΦ.bad h1' (by rw [hf]; exact h)
       have hxo := Step.ok_iff.1 hx
       have hoks : ∀ f ∈ formsS x.th ++ formsS x.el, f.ok := fun g hg => by
        rcases List.mem_append.1 hg with h | h
        · exact ok_formsS hxo.2.1.2 g h
        · exact ok_formsS hxo.2.2.2 g h
       have hstep : ∀ s' c' : Int, fitsF (formsS x.th ++ formsS x.el) (d + 1) (s + 1) (c + x.cond.num) = true → x.cond.dok = true → s + 1 ≤ 64 → c + x.cond.num ≤ 256 → s' = s + 1 + stF (formsS x.th ++ formsS x.el) → c' = c + x.cond.num + cdF (formsS x.th ++ formsS x.el) → Cnt l d s0 c0 (i + 1) s' c' := by
        intro s' c' hfit hdk hs1 hc1 e1 e2
        obtain ⟨k1, k2, k3, k4⟩ := F_S x.th
        obtain ⟨m1, m2, m3, m4⟩ := F_S x.el
        have hn := hΦ.next h1' hd16
        rw [hf] at hn
        simp only [Form.deep, Form.dok, Form.nst, Form.ncd, x.nst_eq, x.ncd_eq, x.deep_eq, x.dok_eq, hdk, Bool.true_and] at hn
        rw [stF_append, k1, m1] at e1
        rw [cdF_append, k2, m2] at e2
        simp only [fitsF, Bool.or_eq_true, Bool.and_eq_true, decide_eq_true_eq, stF_append, cdF_append, dpF_append, okF_append, k1, k2, k3, k4, m1, m2, m3, m4] at hfit
        have g1 : s' = s + (1 + (Step.nstL x.th + Step.nstL x.el) : Nat) := by omega
        have g2 : c' = c + (x.cond.num + (Step.ncdL x.th + Step.ncdL x.el) : Nat) := by omega
        rw [g1, g2]
        rcases hfit with h | h
        · have z1 := stF_append (formsS x.th) (formsS x.el)
          have z2 := cdF_append (formsS x.th) (formsS x.el)
          have z3 := dpF_append (formsS x.th) (formsS x.el)
          have z4 := okF_append (formsS x.th) (formsS x.el)
          rw [h, k1, m1] at z1
          rw [h, k2, m2] at z2
          rw [h, k3, m3] at z3
          rw [h, k4, m4] at z4
          simp only [stF, cdF, dpF, okF] at z1 z2 z3 z4
          exact hn (by omega) (by rw [← z4]) (by omega) (by omega)
        · exact hn (by omega) (by simp only [Bool.and_eq_true]; exact h.1.2) (by omega) (by omega)
       have hs64 : s ≤ 64 := by
        rcases hΦ.fit with h0 | h3
        · have hst0 := hΦ.st
          rw [h0] at hst0
          simp only [List.take_zero, stF] at hst0
          rcases hs.2.2 with h4 | h4
          · omega
          · have h5 := (congrArg stF (split_at h1')).trans (stF_append _ _)
            have h6 : stF (l[i] :: l.drop (i + 1)) = l[i].nst + stF (l.drop (i + 1)) := rfl
            rw [h6, hf, h4] at h5
            simp only [Form.nst, x.nst_eq] at h5
            omega
        · omega
       repeat' ((first | (intro hlq; (try simp only [SL] at hlq)) | refine Meets.k (isZero_meets x.cond) ?_ | ((refine Kh (fun hb => ?_) fun hb => ?_) <;> (try simp only [BL] at hb)) | refine Ka ?_ | refine Kb ?_ | refine Kc (hd := rfl) (e := ?_) | refine Kc (hd := Cond.cells_eq _) (e := ?_) | refine Kd (e := ?_) | refine Kl rfl ?_ | fail) <;> ((conv => whnf); repeat' (refine vcC_go tok {rs := [58, 79]} rfl ?_; conv => whnf)))
       · -- with a condition
         have hz : x.cond.isZero = false := by assumption
         have hnum' : (x.cond.num : Int) = x.cond.total := by simp [Cond.num, hz]
         have hcase : ∀ s1 c1 : Int, fitsF [.ofC x.cond] 0 (s + 1) c = true → (s1 = s + 1 + stF [.ofC x.cond] ∧ c1 = c + cdF [.ofC x.cond]) → (x.cond.num : Int) = x.cond.total → s1 = s + 1 ∧ c1 = c + x.cond.num ∧ x.cond.dok = true := by
          intro s1 c1 hfit1 ⟨hs1, hc1⟩ hnum'
          refine ⟨by simpa [stF, Form.nst] using hs1, by rw [hnum']; simpa [cdF, Form.ncd] using hc1, ?_⟩
          simp only [fitsF, Bool.or_eq_true, Bool.and_eq_true, decide_eq_true_eq, List.cons_ne_nil, false_or] at hfit1
          simp only [Cond.dok, hz, Bool.false_or, decide_eq_true_eq]
          have := hfit1.1.1
          simp only [dpF, Form.deep] at this
          omega
         refine ⟨cntBox (s + 1) c, _, ⟨?_, ?_⟩, (within_count [.ofC x.cond] 0 (s + 1) c (by simp) (by simpa using (show (Form.ofC x.cond).ok from hxo.1)) (by omega) ⟨by omega, by omega, .inr rfl⟩ (by omega)).mono ?_⟩
         · exact Kr
         · exact Kr
         rintro o O' ⟨s1, c1, rfl, rfl, hst1⟩
         ((conv => whnf); repeat' (refine vcC_go tok {rs := [58, 79]} rfl ?_; conv => whnf))
         repeat' ((first | (intro hlq; (try simp only [SL] at hlq)) | ((refine Kh (fun hb => ?_) fun hb => ?_) <;> (try simp only [BL] at hb)) | refine Ka ?_ | refine Kb ?_ | refine Kc (hd := rfl) (e := ?_) | refine Kc (hd := Cond.cells_eq _) (e := ?_) | refine Kd (e := ?_) | refine Kl rfl ?_ | fail) <;> ((conv => whnf); repeat' (refine vcC_go tok {rs := [58, 79]} rfl ?_; conv => whnf)))
         · refine ⟨cntBox s1 c1, .d (bD false), ?_, ⟨CntR.bad (hbad ?_)⟩⟩
           · exact Kr
           rw [hfc, hz, hb]; rfl
         all_goals have hfit1 : fitsF [.ofC x.cond] 0 (s + 1) c = true := by assumption
         all_goals obtain ⟨e1, e2, hdok⟩ := hcase s1 c1 hfit1 (hst1 hfit1) hnum'
         all_goals subst e1 e2
         all_goals have hnum : (x.cond.num : Int) = x.cond.num := rfl
         all_goals clear hnum'
         all_goals have hnum' := hnum
         · refine ⟨cntBox (s + 1) (c + x.cond.num), .d (bD false), ?_, ⟨CntR.bad (hbad ?_)⟩⟩
           · exact Kr
           rw [hfc, decide_eq_false (by omega : ¬ s + 1 ≤ 64)]; simp
         · refine ⟨cntBox (s + 1) (c + x.cond.num), .d (bD false), ?_, ⟨CntR.bad (hbad ?_)⟩⟩
           · exact Kr
           rw [hfc, decide_eq_false (by rw [hnum]; omega : ¬ c + (x.cond.num : Int) ≤ 256)]; simp
         (try dsimp only at *)
         refine ⟨105, methS, ?_⟩
         ((conv => whnf); repeat' (refine vcC_go tok {rs := [58, 79]} rfl ?_; conv => whnf))
         refine Meets.k (partsS_meets x ⟨hxo.2.1.1, hxo.2.2.1⟩) ?_
         ((conv => whnf); repeat' (refine vcC_go tok {rs := [58, 79]} rfl ?_; conv => whnf))
         repeat' ((first | (intro hlq; (try simp only [SL] at hlq)) | refine Ka ?_ | refine Kb ?_ | refine Kc (hd := rfl) (e := ?_) | refine Kc (hd := Cond.cells_eq _) (e := ?_) | refine Kd (e := ?_) | refine Kl rfl ?_ | fail) <;> ((conv => whnf); repeat' (refine vcC_go tok {rs := [58, 79]} rfl ?_; conv => whnf)))
         refine ⟨cntBox (s + 1) (c + x.cond.num), _, ⟨?_, ?_⟩, (within_count (formsS x.th ++ formsS x.el) (d + 1) (s + 1) (c + x.cond.num) (by simp [formsS]; omega) hoks (by omega) ⟨by omega, by omega, .inl (by omega)⟩ (by omega)).mono ?_⟩
         · exact Kr
         · exact Kr
         rintro o O' ⟨s', c', rfl, rfl, hst⟩
         ((conv => whnf); repeat' (refine vcC_go tok {rs := [58, 79]} rfl ?_; conv => whnf))
         repeat' ((first | (intro hlq; (try simp only [SL] at hlq)) | ((refine Kh (fun hb => ?_) fun hb => ?_) <;> (try simp only [BL] at hb)) | refine Ka ?_ | refine Kb ?_ | refine Kc (hd := rfl) (e := ?_) | refine Kc (hd := Cond.cells_eq _) (e := ?_) | refine Kd (e := ?_) | refine Kl rfl ?_ | fail) <;> ((conv => whnf); repeat' (refine vcC_go tok {rs := [58, 79]} rfl ?_; conv => whnf)))
         · refine ⟨cntBox s' c', .d (bD false), ?_, ⟨CntR.bad (hbad ?_)⟩⟩
           · exact Kr
           rw [hfc, hnum', hb]; simp
         · obtain ⟨hs', hc'⟩ := hst hb
           refine ⟨⟨(i + 1, s', c'), ?_, ?_, by dsimp only; omega⟩⟩
           · exact Kr
           exact hstep s' c' (by rw [hnum']; exact hb) hdok (by omega) (by rw [hnum']; omega) hs' (by rw [hnum']; exact hc')
       all_goals have hz : x.cond.isZero = true := by assumption
       all_goals have hnum : (x.cond.num : Int) = 0 := by simp [Cond.num, hz]
       all_goals have hdok : x.cond.dok = true := by simp [Cond.dok, hz]
       all_goals have hnum' : c + (x.cond.num : Int) = c := by omega
       · refine ⟨cntBox (s + 1) (c), .d (bD false), ?_, ⟨CntR.bad (hbad ?_)⟩⟩
         · exact Kr
         rw [hfc, decide_eq_false (by omega : ¬ s + 1 ≤ 64)]; simp
       · refine ⟨cntBox (s + 1) (c), .d (bD false), ?_, ⟨CntR.bad (hbad ?_)⟩⟩
         · exact Kr
         rw [hfc, decide_eq_false (by rw [hnum]; omega : ¬ c + (x.cond.num : Int) ≤ 256)]; simp
       (try dsimp only at *)
       refine ⟨105, methS, ?_⟩
       ((conv => whnf); repeat' (refine vcC_go tok {rs := [58, 79]} rfl ?_; conv => whnf))
       refine Meets.k (partsS_meets x ⟨hxo.2.1.1, hxo.2.2.1⟩) ?_
       ((conv => whnf); repeat' (refine vcC_go tok {rs := [58, 79]} rfl ?_; conv => whnf))
       repeat' ((first | (intro hlq; (try simp only [SL] at hlq)) | refine Ka ?_ | refine Kb ?_ | refine Kc (hd := rfl) (e := ?_) | refine Kc (hd := Cond.cells_eq _) (e := ?_) | refine Kd (e := ?_) | refine Kl rfl ?_ | fail) <;> ((conv => whnf); repeat' (refine vcC_go tok {rs := [58, 79]} rfl ?_; conv => whnf)))
       refine ⟨cntBox (s + 1) (c), _, ⟨?_, ?_⟩, (within_count (formsS x.th ++ formsS x.el) (d + 1) (s + 1) (c) (by simp [formsS]; omega) hoks (by omega) ⟨by omega, by omega, .inl (by omega)⟩ (by omega)).mono ?_⟩
       · exact Kr
       · exact Kr
       rintro o O' ⟨s', c', rfl, rfl, hst⟩
       ((conv => whnf); repeat' (refine vcC_go tok {rs := [58, 79]} rfl ?_; conv => whnf))
       repeat' ((first | (intro hlq; (try simp only [SL] at hlq)) | ((refine Kh (fun hb => ?_) fun hb => ?_) <;> (try simp only [BL] at hb)) | refine Ka ?_ | refine Kb ?_ | refine Kc (hd := rfl) (e := ?_) | refine Kc (hd := Cond.cells_eq _) (e := ?_) | refine Kd (e := ?_) | refine Kl rfl ?_ | fail) <;> ((conv => whnf); repeat' (refine vcC_go tok {rs := [58, 79]} rfl ?_; conv => whnf)))
       · refine ⟨cntBox s' c', .d (bD false), ?_, ⟨CntR.bad (hbad ?_)⟩⟩
         · exact Kr
         rw [hfc, hnum', hb]; simp
       · obtain ⟨hs', hc'⟩ := hst hb
         refine ⟨⟨(i + 1, s', c'), ?_, ?_, by dsimp only; omega⟩⟩
         · exact Kr
         exact hstep s' c' (by rw [hnum']; exact hb) hdok (by omega) (by rw [hnum']; omega) hs' (by rw [hnum']; exact hc')
   · obtain ⟨g1, g2, g3⟩ := hΦ.all (by omega)
     refine ⟨cntBox s c, .d (bD true), ?_, ⟨s, c, by rw [g1], rfl, fun _ => ⟨g2, g3⟩⟩⟩
     repeat' (first | exact True.intro | exact rfl | refine And.intro ?_ ?_)
 · have hnil : l = [] := List.eq_nil_of_length_eq_zero (by omega)
   subst hnil
   refine loop_upd tok {rs := [58, 79]} [] (X := Unit) (fun _ => [(21, iB 0)]) (fun _ => cntBox s0 c0) [9, 10, 11] (fun _ => True) (fun _ => 0) () ?_
   ((conv => whnf); repeat' (refine vcC_go tok {rs := [58, 79]} rfl ?_; conv => whnf))
   refine And.intro ?_ ⟨trivial, fun x _ => ?_⟩
   · exact Kr
   ((conv => whnf); repeat' (refine vcC_go tok {rs := [58, 79]} rfl ?_; conv => whnf))
   refine ⟨fun h1 => ?_, fun h1 => ?_⟩ <;> (try simp only [BL] at h1) <;> ((conv => whnf); repeat' (refine vcC_go tok {rs := [58, 79]} rfl ?_; conv => whnf))
   · exact absurd h1 (by simp)
   · refine ⟨cntBox s0 c0, .d (bD true), ?_, ⟨s0, c0, rfl, rfl, fun _ => by simp [stF, cdF]⟩⟩
     repeat' (first | exact True.intro | exact rfl | refine And.intro ?_ ?_)
termination_by szF l
decreasing_by
 · have h2 := szF_mem (List.getElem_mem h1')
   rw [hf] at h2
   have h3 := x.sz_eq
   rw [szF_C]
   simp only [Form.sz] at h2
   omega
 · have h2 := szF_mem (List.getElem_mem h1')
   rw [hf] at h2
   have h3 := x.sz_eq
   simp only [Form.sz] at h2
   have h4 : szF [Form.ofC x.cond] = 1 + x.cond.sz := by simp [szF, Form.sz]
   rw [h4]
   omega
 · have h2 := szF_mem (List.getElem_mem h1')
   rw [hf] at h2
   have h3 := x.sz_eq
   rw [szF_append, szF_S, szF_S]
   simp only [Form.sz] at h2
   omega
 · have h2 := szF_mem (List.getElem_mem h1')
   rw [hf] at h2
   have h3 := x.sz_eq
   rw [szF_append, szF_S, szF_S]
   simp only [Form.sz] at h2
   omega
theorem check_meets (l : List Form) (hl : l.length ≤ 1048576 * 2) (hok : ∀ f ∈ l, f.ok) : Meets Tryz.prog 46 [.sl (l.map Form.cells)] fun d => d = iD (if fitsF l 0 0 0 then (if l ≠ [] ∧ l.all Form.valid then 0 else 71) else 2) := by
 have hinv := invalids (l := l) fun f hf => valid_meets f (hok f hf)
 refine enter tok {nm := [(5, 1000)], rs := [8]} Tryz.func46 rfl (by kernel_rfl) Tryz.ntmps46 (by simp) fun B0 W0 V0 lent g0 => ?_
 ((conv => whnf); repeat' (refine vcC_go tok {nm := [(5, 1000)], rs := [8]} rfl ?_; conv => whnf))
 refine ⟨cntBox 0 0, _, ⟨?_, ?_⟩, (within_count l 0 0 0 hl hok (by omega) (by omega) (by omega)).mono ?_⟩
 · exact Kr
 · exact Kr
 rintro o O' ⟨s', c', rfl, rfl, hst⟩
 ((conv => whnf); repeat' (refine vcC_go tok {nm := [(5, 1000)], rs := [8]} rfl ?_; conv => whnf))
 repeat' ((first | (intro hlq; (try simp only [SL] at hlq)) | refine Meets.k (hinv) ?_ | ((refine Kh (fun hb => ?_) fun hb => ?_) <;> (try simp only [BL] at hb)) | refine Ka ?_ | refine Kb ?_ | refine Kc (hd := rfl) (e := ?_) | refine Kc (hd := Cond.cells_eq _) (e := ?_) | refine Kd (e := ?_) | refine Kl rfl ?_ | fail) <;> ((conv => whnf); repeat' (refine vcC_go tok {nm := [(5, 1000)], rs := [8]} rfl ?_; conv => whnf)))
 all_goals clear hinv hst
 all_goals refine ⟨congrArg iD ?_⟩
 all_goals simp_all
 all_goals (intro h; simp [h] at *)
theorem Ties_meets (l : List Step) (hl : l.length ≤ 1048576) (hok : ∀ s ∈ l, s.ok) : Meets Tryz.prog 18 [.sl (l.map Step.cells)] fun d => d = iD (if fitsF (formsS l) 0 0 0 then (if l ≠ [] ∧ l.all Step.valid then 0 else 71) else 2) := by
 refine enter tok {} Tryz.func18 rfl (by kernel_rfl) Tryz.ntmps18 (by simp) fun B0 W0 V0 lent g0 => ?_
 ((conv => whnf); repeat' (refine Z rfl ?_; conv => whnf))
 refine Meets.k (steps_meets l hl) ?_
 ((conv => whnf); repeat' (refine Z rfl ?_; conv => whnf))
 refine Meets.k (check_meets (formsS l) (by simp [formsS]; omega) (ok_formsS hok)) ?_
 ((conv => whnf); repeat' (refine Z rfl ?_; conv => whnf))
 refine ⟨congrArg iD ?_⟩
 rw [all_formsS]
 simp [formsS]
end Go.Proofs.YtacclfgmgphljaaGreat.Dx
/- The reference: conditions and steps. -/
namespace Go.Proofs.YtacclfgmgphljaaGreat.Dx
open Go Go.RowKit
set_option maxRecDepth 100000
set_option maxHeartbeats 8000000
theorem zero_meets (c : Cond) : Meets Tryz.prog 65 [c.d] fun d => d = bD c.isZero := by
 refine enter tok {} Tryz.func65 rfl (by kernel_rfl) Tryz.ntmps65 (by simp) fun B0 W0 V0 lent g0 => ?_
 ((conv => whnf); repeat' (refine Z rfl ?_; conv => whnf))
 repeat' ((first | (intro hlq; (try simp only [SL] at hlq)) | ((refine Kh (fun hb => ?_) fun hb => ?_) <;> (try simp only [BL] at hb)) | refine Ka ?_ | refine Kb ?_ | refine Kc (hd := rfl) (e := ?_) | refine Kc (hd := Cond.cells_eq _) (e := ?_) | refine Kd (e := ?_) | refine Kl rfl ?_ | fail) <;> ((conv => whnf); repeat' (refine Z rfl ?_; conv => whnf)))
 all_goals refine ⟨congrArg bD ?_⟩
 all_goals simp_all [Cond.isZero]
theorem all_false {α : Type} {p : α → Bool} {xs : List α} {x : α} (hx : x ∈ xs) (h : p x = false) : xs.all p = false := by
 rw [List.all_eq_false]; exact ⟨x, hx, by rw [h]; simp⟩
theorem all_true {α : Type} {p : α → Bool} {xs : List α} {i : Nat} (hi : ¬ i < xs.length) (h : ∀ x ∈ xs.take i, p x = true) : xs.all p = true := by
 rw [List.take_of_length_le (by omega)] at h
 exact List.all_eq_true.2 h
theorem parts_meets (c : Cond) : Meets Tryz.prog 101 [c.d] fun d => d = bD c.valid := by
 refine enter tok {} Tryz.func101 rfl (by kernel_rfl) Tryz.ntmps101 (by simp) fun B0 W0 V0 lent g0 => ?_
 ((conv => whnf); repeat' (refine Z rfl ?_; conv => whnf))
 repeat' ((first | (intro hlq; (try simp only [SL] at hlq)) | ((refine Kh (fun hb => ?_) fun hb => ?_) <;> (try simp only [BL] at hb)) | refine Ka ?_ | refine Kb ?_ | refine Kc (hd := rfl) (e := ?_) | refine Kc (hd := Cond.cells_eq _) (e := ?_) | refine Kd (e := ?_) | refine Kl rfl ?_ | fail) <;> ((conv => whnf); repeat' (refine Z rfl ?_; conv => whnf)))
 all_goals first
  | (refine ⟨congrArg bD ?_⟩
     rw [Cond.valid_eq]
     simp_all [inR]
     done)
  | (refine ⟨congrArg bD ?_⟩
     rw [Cond.valid_eq]
     simp_all [inR]
     omega)
  | skip
 all_goals try (exfalso; omega)
 all_goals
  have hval : c.valid = c.parts.all Cond.valid := by
   rw [Cond.valid_eq, if_neg (by omega)]
   first
    | (rw [if_pos (by omega), decide_eq_true (by omega : c.var = 0), decide_eq_true (by omega : c.n = 0), decide_eq_true (by omega : (c.parts.length : Int) = 1)]; rfl)
    | (rw [if_neg (by omega), if_pos (by omega), decide_eq_true (by omega : c.var = 0), decide_eq_true (by omega : c.n = 0), decide_eq_true (by omega : 0 < (c.parts.length : Int)), decide_eq_true (by omega : (c.parts.length : Int) ≤ 16)]; rfl)
  refine loop_upd tok {} [] (X := Nat) (fun i => [(3, iB i)]) (fun _ => []) [] (fun i => i ≤ c.parts.length ∧ ∀ x ∈ c.parts.take i, x.valid = true) (fun i => c.parts.length - i) 0 ?_
  ((conv => whnf); repeat' (refine Z rfl ?_; conv => whnf))
  refine And.intro ?_ ⟨⟨by omega, by simp⟩, fun i hΦ => ?_⟩
  · exact Kr
  obtain ⟨hi, hp⟩ := hΦ
  ((conv => whnf); repeat' (refine Z rfl ?_; conv => whnf))
  repeat' ((first | (intro hlq; (try simp only [SL] at hlq)) | refine Ka ?_ | refine Kb ?_ | refine Kc (hd := rfl) (e := ?_) | refine Kc (hd := Cond.cells_eq _) (e := ?_) | refine Kd (e := ?_) | refine Kl rfl ?_ | fail) <;> ((conv => whnf); repeat' (refine Z rfl ?_; conv => whnf)))
  refine ⟨fun h1 => ?_, fun h1 => ?_⟩ <;> (try simp only [BL] at h1) <;> ((conv => whnf); repeat' (refine Z rfl ?_; conv => whnf))
  · have h1' : i < c.parts.length := by omega
    repeat' ((first | (intro hlq; (try simp only [SL] at hlq)) | refine Ka ?_ | refine Kb ?_ | refine Kc (hd := rfl) (e := ?_) | refine Kc (hd := Cond.cells_eq _) (e := ?_) | refine Kd (e := ?_) | refine Kl rfl ?_ | fail) <;> ((conv => whnf); repeat' (refine Z rfl ?_; conv => whnf)))
    refine Meets.k (parts_meets c.parts[i]) ?_
    ((conv => whnf); repeat' (refine Z rfl ?_; conv => whnf))
    refine ⟨fun h2 => ?_, fun h2 => ?_⟩ <;> (try simp only [BL] at h2) <;> ((conv => whnf); repeat' (refine Z rfl ?_; conv => whnf))
    · refine ⟨congrArg bD ?_⟩
      rw [hval, all_false (List.getElem_mem h1') h2]
    · repeat' ((first | (intro hlq; (try simp only [SL] at hlq)) | refine Ka ?_ | refine Kb ?_ | refine Kc (hd := rfl) (e := ?_) | refine Kc (hd := Cond.cells_eq _) (e := ?_) | refine Kd (e := ?_) | refine Kl rfl ?_ | fail) <;> ((conv => whnf); repeat' (refine Z rfl ?_; conv => whnf)))
      refine ⟨⟨i + 1, ?_, ⟨by omega, take_snoc h1' hp h2⟩, by omega⟩⟩
      repeat' (first | exact True.intro | exact rfl | refine And.intro ?_ ?_)
  · refine ⟨congrArg bD ?_⟩
    rw [hval, all_true (by omega) hp]
termination_by SizeOf.sizeOf c
decreasing_by all_goals exact Cond.size_part (List.getElem_mem h1')
mutual
theorem conds_law : ∀ (c : Cond) (depth : Int), 0 ≤ depth → depth ≤ 17 → (depth + c.deep ≤ 16 → c.total ≤ 256 → c.conds depth = c.total) ∧ ((depth + c.deep > 16 ∨ c.total > 256) → c.conds depth > 256)
 | ⟨k, v, n, ps⟩, depth, h0, h1 => by
   have hl := condsL_law ps depth 1 h0
   simp only [Cond.conds, Cond.deep, Cond.total]
   by_cases h : depth > 16
   · rw [if_pos h]; omega
   · have hl := hl (by omega) (by omega)
     rw [if_neg h]
     omega
theorem condsL_law : ∀ (cs : List Cond) (depth n : Int), 0 ≤ depth → depth ≤ 16 → 0 ≤ n → (depth + Cond.deepL cs ≤ 16 → n + Cond.totalL cs ≤ 256 → condsL cs depth n = n + Cond.totalL cs) ∧ ((depth + Cond.deepL cs > 16 ∨ n + Cond.totalL cs > 256) → condsL cs depth n > 256)
 | [], depth, n, h0, h1, h2 => by
   simp only [condsL, Cond.deepL, Cond.totalL]
   omega
 | c :: cs, depth, n, h0, h1, h2 => by
   have hc := conds_law c (depth + 1) (by omega) (by omega)
   simp only [condsL, Cond.deepL, Cond.totalL]
   by_cases h : n ≤ 256
   · rw [if_pos h]
     have hl := condsL_law cs depth (n + c.conds (depth + 1)) h0 h1 (by omega)
     omega
   · rw [if_neg h]; omega
end
theorem rCond_meets (c : Cond) : Meets Tryz.prog 86 [c.d] fun d => d = iD (if c.total ≤ 256 ∧ c.deep ≤ 16 then (if c.valid then 0 else 71) else 2) := by
 have hl := conds_law c 0 (by omega) (by omega)
 refine enter tok {} Tryz.func86 rfl (by kernel_rfl) Tryz.ntmps86 (by simp) fun B0 W0 V0 lent g0 => ?_
 ((conv => whnf); repeat' (refine Z rfl ?_; conv => whnf))
 refine (conditions_meets c 0 (by omega)).mono fun d hd => ?_
 obtain ⟨rfl, h0, h1⟩ := hd
 ((conv => whnf); repeat' (refine Z rfl ?_; conv => whnf))
 repeat' ((first | (intro hlq; (try simp only [SL] at hlq)) | refine Meets.k (parts_meets c) ?_ | ((refine Kh (fun hb => ?_) fun hb => ?_) <;> (try simp only [BL] at hb)) | refine Ka ?_ | refine Kb ?_ | refine Kc (hd := rfl) (e := ?_) | refine Kc (hd := Cond.cells_eq _) (e := ?_) | refine Kd (e := ?_) | refine Kl rfl ?_ | fail) <;> ((conv => whnf); repeat' (refine Z rfl ?_; conv => whnf)))
 all_goals refine ⟨congrArg iD ?_⟩
 · rw [if_neg (by omega)]
 · rw [if_pos (by omega), if_neg (by simp_all)]
 · rw [if_pos (by omega), if_pos (by simp_all)]
end Go.Proofs.YtacclfgmgphljaaGreat.Dx
