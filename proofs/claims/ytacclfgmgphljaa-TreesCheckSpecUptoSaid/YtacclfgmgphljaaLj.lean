/- Chapter 10: TreesCheckSpec, the walk. -/
import Derived.Test.YtacclfgmgphljaaLi
import Derived.Test.YtacclfgmgphljaaLa
import Derived.Test.YtacclfgmgphljaaJk
set_option linter.all false
namespace Go.Proofs.Ytacclfgmgphljaa.Dx
open Go Go.RowKit
set_option maxRecDepth 100000
set_option maxHeartbeats 16000000
theorem CheckSpec_meets (a b : List Node) : Meets Try.prog 3 [treeD a, treeD b] fun d => d = bD true := by
 refine enter tok {} Try.func3 rfl (by kernel_rfl) Try.ntmps3 (by simp) fun B0 W0 V0 lent g0 => ?_
 ((conv => whnf); repeat' (refine Z rfl ?_; conv => whnf))
 repeat' ((first | (intro hlq; (try simp only [SL] at hlq)) | refine Meets.k (sane_meets) ?_ | refine Meets.k (few_meets a) ?_ | refine Meets.k (few_meets b) ?_ | refine Ks ?_ | refine Kq ?_ | refine Kt ?_ | ((refine Kh (fun hb => ?_) fun hb => ?_) <;> (try simp only [BL] at hb)) | refine Ka ?_ | refine Kb ?_ | refine Kc (hd := rfl) (e := ?_) | refine Kc (hd := icells_eq _) (e := ?_) | refine Kd (e := ?_) | refine Kl rfl ?_ | fail) <;> ((conv => whnf); repeat' ((fail_if_success (refine J_at 5 ?_)); refine Z rfl ?_; conv => whnf)))
 all_goals try exact ⟨rfl⟩
 all_goals try exact absurd hb (by decide)
 ((conv => whnf); repeat' (refine Z rfl ?_; conv => whnf))
 refine draw_rule tok (cf := {}) (by kernel_rfl) [.p 0, .p 2, .s 1 [0], .s 3 [2], .p 4, .p 5, .p 6, .p 8, .s 7 [6,5,4], .s 9 [8], .p 10, .p 11, .p 12, .p 13, .p 14, .p 16, .p 17, .s 15 [13,14,12,11,10], .s 18 [16,17], .p 19, .p 20, .p 21, .p 22, .p 23, .s 24 [22,23,21,20,19], .p 25, .p 26] (by kernel_rfl) ?_
 ((conv => whnf); repeat' (refine Z rfl ?_; conv => whnf))
 repeat' ((first | (intro hlq; (try simp only [SL] at hlq)) | refine Meets.k (tCheck_meets a) ?_ | refine Meets.k (rCheck_meets a) ?_ | refine Meets.k (tCheck_meets b) ?_ | refine Meets.k (rCheck_meets b) ?_ | refine Meets.k (tSame_meets a b) ?_ | refine Meets.k (rSame_meets a b) ?_ | refine Meets.k (tSame_meets a a) ?_ | refine Ks ?_ | refine Kq ?_ | refine Kt ?_ | ((refine Kh (fun hb => ?_) fun hb => ?_) <;> (try simp only [BL] at hb)) | refine Ka ?_ | refine Kb ?_ | refine Kc (hd := rfl) (e := ?_) | refine Kc (hd := icells_eq _) (e := ?_) | refine Kd (e := ?_) | refine Kl rfl ?_ | fail) <;> ((conv => whnf); repeat' (refine Z rfl ?_; conv => whnf)))
 all_goals first
  | exact absurd trivial hb
  | exact ⟨congrArg bD (by simp)⟩
  | (exfalso; revert hb; simp; done)
end Go.Proofs.Ytacclfgmgphljaa.Dx
/- The arguments of the laws of chapter 10: typed cells are a tree, an environment, steps, a condition, numbers. -/
namespace Go.Proofs.Ytacclfgmgphljaa.Dx
open Go Go.RowKit
set_option maxRecDepth 100000
theorem shp3 : shp T 3 = some (.i .i64) := rfl
theorem shp34 : shp T 34 = some (.sl 3) := rfl
theorem shp64 : shp T 64 = some (.st [3, 3, 3, 3, 34]) := rfl
theorem shp22 : shp T 22 = some (.sl 64) := rfl
theorem shp24 : shp T 24 = some (.st [22]) := rfl
theorem closedC : closedB T [3, 22, 24, 31, 34, 41, 50, 52, 55, 64] = true := rfl
theorem tInt {n : Nat} {ds : List D} {m : Nat} (h : TyD T n 3 ds m) : ∃ i, ds = [iD i] := h.int_ shp3
def NoQ {α : Type} (_ : α) (_ : Nat) : Prop := True
theorem rdNode (n : Nat) (ds : List D) (m : Nat) (h : TyD T n 64 ds m) : ∃ x : Node, ds = x.cells ∧ NoQ x m := by
 obtain ⟨k, rfl, xs, ms, rfl, h, hs⟩ := h.st_ shp64
 obtain ⟨x1, xs, m1, ms, rfl, rfl, h1, h⟩ := tyF_cons h
 obtain ⟨x2, xs, m2, ms, rfl, rfl, h2, h⟩ := tyF_cons h
 obtain ⟨x3, xs, m3, ms, rfl, rfl, h3, h⟩ := tyF_cons h
 obtain ⟨x4, xs, m4, ms, rfl, rfl, h4, h⟩ := tyF_cons h
 obtain ⟨x5, xs, m5, ms, rfl, rfl, h5, h⟩ := tyF_cons h
 obtain ⟨rfl, rfl⟩ := tyF_nil h
 obtain ⟨i1, rfl⟩ := tInt h1
 obtain ⟨i2, rfl⟩ := tInt h2
 obtain ⟨i3, rfl⟩ := tInt h3
 obtain ⟨i4, rfl⟩ := tInt h4
 obtain ⟨l, rfl, hl⟩ := h5.sl_ shp34 icells NoQ (fun n' ds m hn h => by obtain ⟨i, rfl⟩ := tInt h; exact ⟨i, rfl, trivial⟩)
 exact ⟨⟨i1, i2, i3, i4, l⟩, rfl, trivial⟩
theorem tyVs_nil {ds : List D} {ms : List Nat} (h : TyVs T [] ds ms) : ds = [] ∧ ms = [] := by
 cases ds <;> cases ms <;> first | exact ⟨rfl, rfl⟩ | exact h.elim
theorem tyVs_cons {f : TypeId} {fs : List TypeId} {xs : List D} {ms : List Nat} (h : TyVs T (f :: fs) xs ms) :
 ∃ x xs' m ms', xs = x :: xs' ∧ ms = m :: ms' ∧ TyV T f x m ∧ TyVs T fs xs' ms' := by
 cases xs <;> cases ms <;> first | exact ⟨_, _, _, _, rfl, rfl, h.1, h.2⟩ | exact h.elim
theorem vTree {d : D} {m : Nat} (h : TyV T 24 d m) : ∃ ns : List Node, d = treeD ns := by
 obtain ⟨n, cs, g1, g2⟩ := h
 obtain ⟨k, rfl, xs, ms, rfl, h, hs⟩ := g1.st_ shp24
 obtain ⟨x1, xs, m1, ms, rfl, rfl, h1, h⟩ := tyF_cons h
 obtain ⟨rfl, rfl⟩ := tyF_nil h
 obtain ⟨l, rfl, hl⟩ := h1.sl_ shp22 Node.cells NoQ (fun n' ds m hn h => rdNode n' ds m h)
 exact ⟨l, by rw [g2]; rfl⟩
end Go.Proofs.Ytacclfgmgphljaa.Dx
