/- The arguments of the laws of chapter 10: typed cells are a tree, an environment, steps, a condition, numbers. -/
import Derived.Test.YtacclfgmgphljaaNa
import Derived.Test.YtacclfgmgphljaaMk
import Derived.Test.YtacclfgmgphljaaNi
set_option linter.all false
namespace Go.Proofs.Ytacclfgmgphljaa.Dx
open Go Go.RowKit
set_option maxRecDepth 100000
theorem shp3 : shp T 3 = some (.i .i64) := rfl
theorem shp34 : shp T 34 = some (.sl 3) := rfl
theorem shp64 : shp T 64 = some (.st [3, 3, 3, 3, 34]) := rfl
theorem shp22 : shp T 22 = some (.sl 64) := rfl
theorem shp24 : shp T 24 = some (.st [22]) := rfl
theorem shp31 : shp T 31 = some (.st [3, 3, 3]) := rfl
theorem shp50 : shp T 50 = some (.sl 52) := rfl
theorem shp52 : shp T 52 = some (.st [3, 3, 3, 50]) := rfl
theorem shp55 : shp T 55 = some (.st [3, 3, 52, 41, 41]) := rfl
theorem shp41 : shp T 41 = some (.sl 55) := rfl
theorem closedC : closedB T [3, 22, 24, 31, 34, 41, 50, 52, 55, 64] = true := rfl
theorem tInt {n : Nat} {ds : List D} {m : Nat} (h : TyD T n 3 ds m) : ∃ i, ds = [iD i] := h.int_ shp3
def OkB {α : Type} (p : α → Prop) (x : α) (m : Nat) : Prop := m ≤ 1048576 → p x
def NoQ {α : Type} (_ : α) (_ : Nat) : Prop := True
theorem ListOf.ok {α : Type} {p : α → Prop} {l : List α} {m : Nat} (h : ListOf (OkB p) l m) (hm : m ≤ 1048576) : l.length ≤ 1048576 ∧ ∀ x ∈ l, p x :=
 ⟨by have := h.len; omega, fun x hx => by obtain ⟨m', h1, h2⟩ := h.all x hx; exact h2 (by omega)⟩
theorem rdCond : ∀ (n : Nat) (ds : List D) (m : Nat), TyD T n 52 ds m → ∃ c : Cond, ds = c.cells ∧ OkB Cond.ok c m := by
 intro n
 induction n using Nat.strongRecOn with
 | ind n IH =>
   intro ds m h
   obtain ⟨k, rfl, xs, ms, rfl, h, hs⟩ := h.st_ shp52
   obtain ⟨x1, xs, m1, ms, rfl, rfl, h1, h⟩ := tyF_cons h
   obtain ⟨x2, xs, m2, ms, rfl, rfl, h2, h⟩ := tyF_cons h
   obtain ⟨x3, xs, m3, ms, rfl, rfl, h3, h⟩ := tyF_cons h
   obtain ⟨x4, xs, m4, ms, rfl, rfl, h4, h⟩ := tyF_cons h
   obtain ⟨rfl, rfl⟩ := tyF_nil h
   obtain ⟨i1, rfl⟩ := tInt h1
   obtain ⟨i2, rfl⟩ := tInt h2
   obtain ⟨i3, rfl⟩ := tInt h3
   obtain ⟨l, rfl, hl⟩ := h4.sl_ shp50 Cond.cells (OkB Cond.ok) (fun n' ds m hn h => IH n' (by omega) ds m h)
   simp only [List.sum_cons, List.sum_nil] at hs
   refine ⟨⟨i1, i2, i3, l⟩, by simp [Cond.cells_eq], fun hm => ?_⟩
   obtain ⟨k1, k2⟩ := hl.ok (by omega)
   exact ⟨k1, Cond.okL_iff.2 k2⟩
theorem rdStep : ∀ (n : Nat) (ds : List D) (m : Nat), TyD T n 55 ds m → ∃ c : Step, ds = c.cells ∧ OkB Step.ok c m := by
 intro n
 induction n using Nat.strongRecOn with
 | ind n IH =>
   intro ds m h
   obtain ⟨k, rfl, xs, ms, rfl, h, hs⟩ := h.st_ shp55
   obtain ⟨x1, xs, m1, ms, rfl, rfl, h1, h⟩ := tyF_cons h
   obtain ⟨x2, xs, m2, ms, rfl, rfl, h2, h⟩ := tyF_cons h
   obtain ⟨x3, xs, m3, ms, rfl, rfl, h3, h⟩ := tyF_cons h
   obtain ⟨x4, xs, m4, ms, rfl, rfl, h4, h⟩ := tyF_cons h
   obtain ⟨x5, xs, m5, ms, rfl, rfl, h5, h⟩ := tyF_cons h
   obtain ⟨rfl, rfl⟩ := tyF_nil h
   obtain ⟨i1, rfl⟩ := tInt h1
   obtain ⟨i2, rfl⟩ := tInt h2
   obtain ⟨c, rfl, hc⟩ := rdCond _ _ _ h3
   obtain ⟨l, rfl, hl⟩ := h4.sl_ shp41 Step.cells (OkB Step.ok) (fun n' ds m hn h => IH n' (by omega) ds m h)
   obtain ⟨l', rfl, hl'⟩ := h5.sl_ shp41 Step.cells (OkB Step.ok) (fun n' ds m hn h => IH n' (by omega) ds m h)
   simp only [List.sum_cons, List.sum_nil] at hs
   refine ⟨⟨i1, i2, c, l, l'⟩, by simp [Step.cells_eq, Cond.cells_eq], fun hm => ?_⟩
   obtain ⟨k1, k2⟩ := hl.ok (by omega)
   obtain ⟨k3, k4⟩ := hl'.ok (by omega)
   exact ⟨hc (by omega), ⟨k1, Step.okL_iff.2 k2⟩, k3, Step.okL_iff.2 k4⟩
theorem rdNode (n : Nat) (ds : List D) (m : Nat) (h : TyD T n 64 ds m) : ∃ x : Node, ds = x.cells ∧ NoQ x m := by
 obtain ⟨k, rfl, xs, ms, rfl, h, hs⟩ := h.st_ shp64
 obtain ⟨x1, xs, m1, ms, rfl, rfl, h1, h⟩ := tyF_cons h
 obtain ⟨x2, xs, m2, ms, rfl, rfl, h2, h⟩ := tyF_cons h
 obtain ⟨x3, xs, m3, ms, rfl, rfl, h3, h⟩ := tyF_cons h
 obtain ⟨x4, xs, m4, ms, rfl, rfl, h4, h⟩ := tyF_cons h
 obtain ⟨x5, xs, m5, ms, rfl, rfl, h5, h⟩ := tyF_cons h
 obtain ⟨rfl, rfl⟩ := tyF_nil h
 obtain ⟨i1, rfl⟩ := tInt h1
 obtain ⟨i2, rfl⟩ := tInt h2
 obtain ⟨i3, rfl⟩ := tInt h3
 obtain ⟨i4, rfl⟩ := tInt h4
 obtain ⟨l, rfl, hl⟩ := h5.sl_ shp34 icells NoQ (fun n' ds m hn h => by obtain ⟨i, rfl⟩ := tInt h; exact ⟨i, rfl, trivial⟩)
 exact ⟨⟨i1, i2, i3, i4, l⟩, rfl, trivial⟩
theorem tyVs_nil {ds : List D} {ms : List Nat} (h : TyVs T [] ds ms) : ds = [] ∧ ms = [] := by
 cases ds <;> cases ms <;> first | exact ⟨rfl, rfl⟩ | exact h.elim
theorem tyVs_cons {f : TypeId} {fs : List TypeId} {xs : List D} {ms : List Nat} (h : TyVs T (f :: fs) xs ms) :
 ∃ x xs' m ms', xs = x :: xs' ∧ ms = m :: ms' ∧ TyV T f x m ∧ TyVs T fs xs' ms' := by
 cases xs <;> cases ms <;> first | exact ⟨_, _, _, _, rfl, rfl, h.1, h.2⟩ | exact h.elim
theorem vInt {d : D} {m : Nat} (h : TyV T 3 d m) : ∃ i : Int, d = iD i := by
 obtain ⟨n, cs, h1, h2⟩ := h
 obtain ⟨i, rfl⟩ := tInt h1
 exact ⟨i, by rw [h2]; rfl⟩
theorem vCond {d : D} {m : Nat} (h : TyV T 52 d m) (hm : m ≤ 1048576) : ∃ c : Cond, d = .agg c.cells ∧ c.ok := by
 obtain ⟨n, cs, h1, h2⟩ := h
 obtain ⟨c, rfl, hc⟩ := rdCond n cs m h1
 exact ⟨c, by rw [h2, Cond.cells_eq]; rfl, hc hm⟩
theorem vStepsM {d : D} {m : Nat} (h : TyV T 41 d m) (hm : m ≤ 1048576) : ∃ l : List Step, d = .sl (l.map Step.cells) ∧ l.length ≤ m ∧ ∀ s ∈ l, s.ok := by
 obtain ⟨n, cs, h1, h2⟩ := h
 obtain ⟨l, rfl, hl⟩ := h1.sl_ shp41 Step.cells (OkB Step.ok) (fun n' ds m hn h => rdStep n' ds m h)
 exact ⟨l, by rw [h2]; rfl, Nat.le_of_lt hl.len, (hl.ok hm).2⟩
theorem vEnv {d : D} {m : Nat} (h : TyV T 31 d m) : ∃ x : Env, d = x.d := by
 obtain ⟨n, cs, g1, g2⟩ := h
 obtain ⟨k, rfl, xs, ms, rfl, h, hs⟩ := g1.st_ shp31
 obtain ⟨x1, xs, m1, ms, rfl, rfl, h1, h⟩ := tyF_cons h
 obtain ⟨x2, xs, m2, ms, rfl, rfl, h2, h⟩ := tyF_cons h
 obtain ⟨x3, xs, m3, ms, rfl, rfl, h3, h⟩ := tyF_cons h
 obtain ⟨rfl, rfl⟩ := tyF_nil h
 obtain ⟨i1, rfl⟩ := tInt h1
 obtain ⟨i2, rfl⟩ := tInt h2
 obtain ⟨i3, rfl⟩ := tInt h3
 exact ⟨⟨i1, i2, i3⟩, by rw [g2]; rfl⟩
theorem vTree {d : D} {m : Nat} (h : TyV T 24 d m) : ∃ ns : List Node, d = treeD ns := by
 obtain ⟨n, cs, g1, g2⟩ := h
 obtain ⟨k, rfl, xs, ms, rfl, h, hs⟩ := g1.st_ shp24
 obtain ⟨x1, xs, m1, ms, rfl, rfl, h1, h⟩ := tyF_cons h
 obtain ⟨rfl, rfl⟩ := tyF_nil h
 obtain ⟨l, rfl, hl⟩ := h1.sl_ shp22 Node.cells NoQ (fun n' ds m hn h => rdNode n' ds m h)
 exact ⟨l, by rw [g2]; rfl⟩
end Go.Proofs.Ytacclfgmgphljaa.Dx
/- Chapter 10: a tie rule does not tell apart what lies between its tests; what Compile returns is the tree of the rule. -/
namespace Go.Proofs.Ytacclfgmgphljaa.Dx
open Go Go.RowKit
set_option maxRecDepth 100000
/-- x and y lie on the same side of every test -/
def SameSide (x y : Env) (L : Int → List Int) : Prop := ∀ w, 1 ≤ w → w ≤ 3 → ∀ n, (n ∈ L w ∨ n ≤ 0 ∨ Tr.most w < n) → (n ≤ x.value w ↔ n ≤ y.value w)
mutual
theorem holds_low {x y : Env} {L : Int → List Int} (h : SameSide x y L) : ∀ c : Cond, c.valid = true → (∀ w, 1 ≤ w → w ≤ 3 → ∀ n ∈ c.nums w, n ∈ L w) → c.holds x = c.holds y
 | ⟨k, v, n, ps⟩, hv, hn => by
   have hl := listL_low h ps
   have hs : (∀ w, 1 ≤ w → w ≤ 3 → ∀ n ∈ Cond.numsL w ps, n ∈ L w) := fun w h1 h2 m hm => hn w h1 h2 m (by rw [Cond.nums]; exact List.mem_append_right _ hm)
   by_cases h1 : k = 1
   · subst h1
     simp only [Cond.valid, if_true, inR, Bool.and_eq_true, decide_eq_true_eq] at hv
     have := h v hv.1.1 hv.1.2 n (by
      by_cases q : 0 < n ∧ n ≤ Tr.most v
      · exact .inl (hn v hv.1.1 hv.1.2 n (by rw [Cond.nums, own1, if_pos ⟨rfl, rfl, q.1, q.2⟩]; simp))
      · omega)
     rw [holds_eq, holds_eq]
     exact decide_eq_decide.2 this
   · by_cases h4 : k = 4
     · subst h4
       simp only [Cond.valid, if_true, Bool.and_eq_true, decide_eq_true_eq, show ¬ ((4 : Int) = 1) from by decide, if_false] at hv
       rw [holds_eq, holds_eq]
       simp only [if_true, show ¬ ((4 : Int) = 1) from by decide, if_false]
       have := hl hv.2.2 hs
       match ps, hv, hs, this with
       | [], _, _, _ => rfl
       | [p], _, _, hh =>
         have h2 := hh.1
         simp only [Cond.anyL, Bool.or_false] at h2
         show (!Cond.holds x p) = !Cond.holds y p
         rw [h2]
       | _ :: _ :: _, hv, _, _ => exact absurd hv.2.1 (by simp; omega)
     · by_cases h23 : k = 2 ∨ k = 3
       · simp only [Cond.valid, if_neg h1, if_neg h4, if_pos h23, Bool.and_eq_true, decide_eq_true_eq] at hv
         have := hl hv.2.2 hs
         rw [anyL_eq, anyL_eq, allL_eq, allL_eq] at this
         rw [holds_eq, holds_eq]
         simp only [if_neg h1, if_neg h4, this.1, this.2]
       · simp only [Cond.valid, if_neg h1, if_neg h4, if_neg h23] at hv
         cases hv
theorem listL_low {x y : Env} {L : Int → List Int} (h : SameSide x y L) : ∀ ps : List Cond, Cond.validL ps = true → (∀ w, 1 ≤ w → w ≤ 3 → ∀ n ∈ Cond.numsL w ps, n ∈ L w) → Cond.anyL x ps = Cond.anyL y ps ∧ Cond.allL x ps = Cond.allL y ps
 | [], _, _ => ⟨rfl, rfl⟩
 | c :: cs, hv, hn => by
   rw [Cond.validL, Bool.and_eq_true] at hv
   have h1 := holds_low h c hv.1 fun w a b n hm => hn w a b n (by rw [Cond.numsL]; exact List.mem_append_left _ hm)
   have h2 := listL_low h cs hv.2 fun w a b n hm => hn w a b n (by rw [Cond.numsL]; exact List.mem_append_right _ hm)
   simp only [Cond.anyL, Cond.allL, h1, h2.1, h2.2, and_self]
end
mutual
theorem app_low {x y : Env} {L : Int → List Int} (h : SameSide x y L) : ∀ (s : Step) (acc : List Int), s.valid = true → (∀ w, 1 ≤ w → w ≤ 3 → ∀ n ∈ s.nums w, n ∈ L w) → Step.app x s acc = Step.app y s acc
 | ⟨k, b, c, t, e⟩, acc, hv, hn => by
   by_cases h2 : k = 2
   · subst h2
     simp only [Step.valid, show ¬ ((2 : Int) = 1) from by decide, if_false, if_true, Bool.and_eq_true, decide_eq_true_eq] at hv
     have q1 := holds_low h c hv.2.1 fun w a b n hm => hn w a b n (by rw [Step.nums]; exact List.mem_append_left _ hm)
     have q2 := appL_low h t acc hv.2.2.2.1 fun w a b n hm => hn w a b n (by rw [Step.nums]; exact List.mem_append_right _ (List.mem_append_left _ hm))
     have q3 := appL_low h e acc hv.2.2.2.2 fun w a b n hm => hn w a b n (by rw [Step.nums]; exact List.mem_append_right _ (List.mem_append_right _ hm))
     simp only [Step.app, if_true, q1, q2, q3]
   · simp only [Step.app, if_neg h2]
theorem appL_low {x y : Env} {L : Int → List Int} (h : SameSide x y L) : ∀ (l : List Step) (acc : List Int), Step.validL l = true → (∀ w, 1 ≤ w → w ≤ 3 → ∀ n ∈ Step.numsL w l, n ∈ L w) → Step.appL x l acc = Step.appL y l acc
 | [], _, _, _ => rfl
 | s :: ss, acc, hv, hn => by
   rw [Step.validL, Bool.and_eq_true] at hv
   have h1 := app_low h s acc hv.1 fun w a b n hm => hn w a b n (by rw [Step.numsL]; exact List.mem_append_left _ hm)
   have h2 := appL_low h ss (Step.app y s acc) hv.2 fun w a b n hm => hn w a b n (by rw [Step.numsL]; exact List.mem_append_right _ hm)
   rw [Step.appL, Step.appL, h1, h2]
end
/-- the values that a tie rule tells apart: fewer values do as well, if all its tests are among them -/
theorem fits_of {l : List Step} (hv : ∀ s ∈ l, s.valid = true) {l1 l2 l3 : List Int} (h1 : Vals1 1 l1) (h2 : Vals1 2 l2) (h3 : Vals1 3 l3)
 (m1 : ∀ n ∈ l.flatMap (Step.nums 1), n ∈ l1) (m2 : ∀ n ∈ l.flatMap (Step.nums 2), n ∈ l2) (m3 : ∀ n ∈ l.flatMap (Step.nums 3), n ∈ l3) : Fits (fun x => Step.appL x l []) l1 l2 l3 := by
 intro x hx
 have hg := good_iff.1 hx
 have key : ∀ {v : Int} {L : List Int}, Vals1 v L → ∀ m n : Int, 0 ≤ m → m ≤ Tr.most v → (n ∈ L ∨ n ≤ 0 ∨ Tr.most v < n) → (n ≤ m ↔ n ≤ lastLe m L) := by
  intro v L hL m n hm hm' hn
  have hlast := (hL.last hm).1
  obtain ⟨r, e⟩ := hL.zero
  have hs := hL.sorted
  rw [e] at hs
  rcases hn with hn | hn | hn
  · rw [e] at hn ⊢
    exact ⟨fun h => lastLe_gap hs n hn h, fun h => Int.le_trans h (lastLe_le hs hm)⟩
  · omega
  · omega
 refine appL_low (L := fun w => if w = 1 then l1 else if w = 2 then l2 else l3) ?_ l [] (by rw [Step.validL_eq, List.all_eq_true]; exact hv) ?_
 · intro w a b n hn
   rcases (by omega : w = 1 ∨ w = 2 ∨ w = 3) with rfl | rfl | rfl
   · exact key h1 x.distance n hg.1.1 hg.1.2 (by simpa using hn)
   · exact key h2 x.field n hg.2.1.1 hg.2.1.2 (by simpa using hn)
   · exact key h3 x.short n hg.2.2.1 hg.2.2.2 (by simpa using hn)
 · intro w a b n hn
   rw [snumsL_eq] at hn
   rcases (by omega : w = 1 ∨ w = 2 ∨ w = 3) with rfl | rfl | rfl
   · exact m1 n hn
   · exact m2 n hn
   · exact m3 n hn
theorem mem_valsL {l : List Step} {v n : Int} (h : n ∈ l.flatMap (Step.nums v)) : n ∈ valsL l v := ((vals1_spec _).2 n).2 (List.mem_append_left _ h)
theorem fits_L {l : List Step} (h : tiesE l = 0) : Fits (fun x => Step.appL x l []) (valsL l 1) (valsL l 2) (valsL l 3) :=
 fits_of (ties_ok h).1 (valsL_ok l (by decide)) (valsL_ok l (by decide)) (valsL_ok l (by decide)) (fun _ h => mem_valsL h) (fun _ h => mem_valsL h) (fun _ h => mem_valsL h)
/-- the tree means what the rule means -/
theorem treeL_eval {l : List Step} (h : tiesE l = 0) {x : Env} (hx : x.good = true) : (treeL l).eval x = Step.appL x l [] :=
 tree3_fits (valsL_ok l (by decide)) (valsL_ok l (by decide)) (valsL_ok l (by decide)) (fits_L h) hx
/-- two rules have one tree just if they mean the same -/
theorem treeL_eq {l m : List Step} (h : tiesE l = 0) (h' : tiesE m = 0) : treeL l = treeL m ↔ ∀ x : Env, x.good = true → Step.appL x l [] = Step.appL x m [] := by
 constructor
 · intro e x hx
   rw [← treeL_eval h hx, ← treeL_eval h' hx, e]
 · exact fun e => tree3_eq (valsL_ok l (by decide)) (valsL_ok l (by decide)) (valsL_ok l (by decide)) (fits_L h) (valsL_ok m (by decide)) (valsL_ok m (by decide)) (valsL_ok m (by decide)) (fits_L h') e
theorem serT_inj {s t : Tr} (hs : s.ok) (ht : t.ok) (h : serT s = serT t) : s = t := by
 have h1 := ser_root hs
 rw [h] at h1
 exact h1.func (ser_root ht)
theorem compile_ok {l : List Step} (h : (compileE l).2 = 0) : tiesE l = 0 ∧ (preT (treeL l) []).length ≤ 4096 ∧ compileE l = (serT (treeL l), 0) := by
 unfold compileE at h ⊢
 by_cases h1 : tiesE l = 0
 · rw [if_pos h1] at h ⊢
   by_cases h2 : (preT (treeL l) []).length ≤ 4096
   · rw [if_pos h2]; exact ⟨h1, h2, rfl⟩
   · rw [if_neg h2] at h; cases h
 · rw [if_neg h1] at h
   exact absurd h h1
theorem compile_bad {l : List Step} (h : (compileE l).2 ≠ 0) : (compileE l).1 = [] ∧ ((compileE l).2 = tiesE l ∨ (compileE l).2 = 2) := by
 unfold compileE at h ⊢
 by_cases h1 : tiesE l = 0
 · rw [if_pos h1] at h ⊢
   by_cases h2 : (preT (treeL l) []).length ≤ 4096
   · rw [if_pos h2] at h; exact absurd rfl h
   · rw [if_neg h2]; exact ⟨rfl, .inr rfl⟩
 · rw [if_neg h1]
   exact ⟨rfl, .inl rfl⟩
/-- the code's Eval at what Compile returns -/
theorem eval_compile {l : List Step} (h : (compileE l).2 = 0) {x : Env} (hx : x.good = true) : evalE (compileE l).1 x = (Step.appL x l [], 0) := by
 obtain ⟨h1, h2, h3⟩ := compile_ok h
 have hok := treeL_ok h1
 rw [h3]
 rw [evalE, if_pos (ser_check hok h2), if_pos hx, treeOf_eq (ser_root hok), treeL_eval h1 hx]
end Go.Proofs.Ytacclfgmgphljaa.Dx
/- Chapter 10: environments of the laws, the reference's tests. -/
namespace Go.Proofs.Ytacclfgmgphljaa.Dx
open Go Go.RowKit
set_option maxRecDepth 100000
set_option maxHeartbeats 16000000
theorem and_small (n : Int) : ∃ m : Int, IntKind.i64.wrap (BitVec.ofInt IntKind.i64.bits n &&& BitVec.ofInt IntKind.i64.bits 1073741823).toNat = m ∧ 0 ≤ m ∧ m ≤ 1073741823 := by
 have h : (BitVec.ofInt IntKind.i64.bits n &&& BitVec.ofInt IntKind.i64.bits 1073741823).toNat ≤ 1073741823 := by
  rw [BitVec.toNat_and]
  exact Nat.le_trans Nat.and_le_right (by decide)
 refine ⟨_, rfl, ?_⟩
 generalize (BitVec.ofInt IntKind.i64.bits n &&& BitVec.ofInt IntKind.i64.bits 1073741823).toNat = j at h
 have hw : IntKind.i64.wrap (j : Int) = j := wrap_inKind (by simp only [inKind]; omega)
 rw [hw]; omega
theorem env_meets (n : Int) : Meets Try.prog 15 [iD n] fun d => ∃ x : Env, d = x.d ∧ x.good = true := by
 obtain ⟨m, hm, h0, h1⟩ := and_small n
 refine enter tok {} Try.func15 rfl (by kernel_rfl) Try.ntmps15 (by simp) fun B0 W0 V0 lent g0 => ?_
 ((conv => whnf); repeat' (refine Z rfl ?_; conv => whnf))
 rw [hm]
 refine ⟨fun _ _ => ⟨by omega, by omega⟩, ?_⟩
 ((conv => whnf); repeat' (refine Z rfl ?_; conv => whnf))
 refine ⟨fun _ _ => ⟨by omega, by omega⟩, ?_⟩
 ((conv => whnf); repeat' (refine Z rfl ?_; conv => whnf))
 refine ⟨fun _ _ => ⟨by omega, by omega⟩, ?_⟩
 ((conv => whnf); repeat' (refine Z rfl ?_; conv => whnf))
 refine ⟨fun _ _ => ⟨by omega, by omega⟩, ?_⟩
 ((conv => whnf); repeat' (refine Z rfl ?_; conv => whnf))
 refine ⟨fun _ _ => ⟨by omega, by omega⟩, ?_⟩
 ((conv => whnf); repeat' (refine Z rfl ?_; conv => whnf))
 exact ⟨⟨⟨m % 8, m / 8 % 4001, m / 32008 % 2⟩, rfl, good_iff.2 (by simp only; omega)⟩⟩
end Go.Proofs.Ytacclfgmgphljaa.Dx
