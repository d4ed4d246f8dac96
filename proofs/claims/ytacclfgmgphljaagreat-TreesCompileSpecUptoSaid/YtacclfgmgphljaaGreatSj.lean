/- The arguments of the laws of chapter 10: typed cells are a tree, an environment, steps, a condition, numbers. -/
import Derived.Test.YtacclfgmgphljaaGreatSa
import Derived.Test.YtacclfgmgphljaaGreatRk
import Derived.Test.YtacclfgmgphljaaGreatSi
set_option linter.all false
namespace Go.Proofs.YtacclfgmgphljaaGreat.Dx
open Go Go.RowKit
set_option maxRecDepth 100000
theorem shp3 : shp T 3 = some (.i .i64) := rfl
theorem shp50 : shp T 33 = some (.sl 35) := rfl
theorem shp52 : shp T 35 = some (.st [3, 3, 3, 33]) := rfl
theorem shp55 : shp T 79 = some (.st [3, 3, 35, 22, 22]) := rfl
theorem shp41 : shp T 22 = some (.sl 79) := rfl
theorem closedC : closedB T [3, 25, 27, 41, 37, 22, 33, 35, 79, 39] = true := rfl
theorem tInt {n : Nat} {ds : List D} {m : Nat} (h : TyD T n 3 ds m) : ∃ i, ds = [iD i] := h.int_ shp3
def OkB {α : Type} (p : α → Prop) (x : α) (m : Nat) : Prop := m ≤ 1048576 → p x
theorem ListOf.ok {α : Type} {p : α → Prop} {l : List α} {m : Nat} (h : ListOf (OkB p) l m) (hm : m ≤ 1048576) : l.length ≤ 1048576 ∧ ∀ x ∈ l, p x :=
 ⟨by have := h.len; omega, fun x hx => by obtain ⟨m', h1, h2⟩ := h.all x hx; exact h2 (by omega)⟩
theorem rdCond : ∀ (n : Nat) (ds : List D) (m : Nat), TyD T n 35 ds m → ∃ c : Cond, ds = c.cells ∧ OkB Cond.ok c m := by
 intro n
 induction n using Nat.strongRecOn with
 | ind n IH =>
   intro ds m h
   obtain ⟨k, rfl, xs, ms, rfl, h, hs⟩ := h.st_ shp52
   obtain ⟨x1, xs, m1, ms, rfl, rfl, h1, h⟩ := tyF_cons h
   obtain ⟨x2, xs, m2, ms, rfl, rfl, h2, h⟩ := tyF_cons h
   obtain ⟨x3, xs, m3, ms, rfl, rfl, h3, h⟩ := tyF_cons h
   obtain ⟨x4, xs, m4, ms, rfl, rfl, h4, h⟩ := tyF_cons h
   obtain ⟨rfl, rfl⟩ := tyF_nil h
   obtain ⟨i1, rfl⟩ := tInt h1
   obtain ⟨i2, rfl⟩ := tInt h2
   obtain ⟨i3, rfl⟩ := tInt h3
   obtain ⟨l, rfl, hl⟩ := h4.sl_ shp50 Cond.cells (OkB Cond.ok) (fun n' ds m hn h => IH n' (by omega) ds m h)
   simp only [List.sum_cons, List.sum_nil] at hs
   refine ⟨⟨i1, i2, i3, l⟩, by simp [Cond.cells_eq], fun hm => ?_⟩
   obtain ⟨k1, k2⟩ := hl.ok (by omega)
   exact ⟨k1, Cond.okL_iff.2 k2⟩
theorem rdStep : ∀ (n : Nat) (ds : List D) (m : Nat), TyD T n 79 ds m → ∃ c : Step, ds = c.cells ∧ OkB Step.ok c m := by
 intro n
 induction n using Nat.strongRecOn with
 | ind n IH =>
   intro ds m h
   obtain ⟨k, rfl, xs, ms, rfl, h, hs⟩ := h.st_ shp55
   obtain ⟨x1, xs, m1, ms, rfl, rfl, h1, h⟩ := tyF_cons h
   obtain ⟨x2, xs, m2, ms, rfl, rfl, h2, h⟩ := tyF_cons h
   obtain ⟨x3, xs, m3, ms, rfl, rfl, h3, h⟩ := tyF_cons h
   obtain ⟨x4, xs, m4, ms, rfl, rfl, h4, h⟩ := tyF_cons h
   obtain ⟨x5, xs, m5, ms, rfl, rfl, h5, h⟩ := tyF_cons h
   obtain ⟨rfl, rfl⟩ := tyF_nil h
   obtain ⟨i1, rfl⟩ := tInt h1
   obtain ⟨i2, rfl⟩ := tInt h2
   obtain ⟨c, rfl, hc⟩ := rdCond _ _ _ h3
   obtain ⟨l, rfl, hl⟩ := h4.sl_ shp41 Step.cells (OkB Step.ok) (fun n' ds m hn h => IH n' (by omega) ds m h)
   obtain ⟨l', rfl, hl'⟩ := h5.sl_ shp41 Step.cells (OkB Step.ok) (fun n' ds m hn h => IH n' (by omega) ds m h)
   simp only [List.sum_cons, List.sum_nil] at hs
   refine ⟨⟨i1, i2, c, l, l'⟩, by simp [Step.cells_eq, Cond.cells_eq], fun hm => ?_⟩
   obtain ⟨k1, k2⟩ := hl.ok (by omega)
   obtain ⟨k3, k4⟩ := hl'.ok (by omega)
   exact ⟨hc (by omega), ⟨k1, Step.okL_iff.2 k2⟩, k3, Step.okL_iff.2 k4⟩
theorem tyVs_nil {ds : List D} {ms : List Nat} (h : TyVs T [] ds ms) : ds = [] ∧ ms = [] := by
 cases ds <;> cases ms <;> first | exact ⟨rfl, rfl⟩ | exact h.elim
theorem tyVs_cons {f : TypeId} {fs : List TypeId} {xs : List D} {ms : List Nat} (h : TyVs T (f :: fs) xs ms) :
 ∃ x xs' m ms', xs = x :: xs' ∧ ms = m :: ms' ∧ TyV T f x m ∧ TyVs T fs xs' ms' := by
 cases xs <;> cases ms <;> first | exact ⟨_, _, _, _, rfl, rfl, h.1, h.2⟩ | exact h.elim
theorem vStepsM {d : D} {m : Nat} (h : TyV T 22 d m) (hm : m ≤ 1048576) : ∃ l : List Step, d = .sl (l.map Step.cells) ∧ l.length ≤ m ∧ ∀ s ∈ l, s.ok := by
 obtain ⟨n, cs, h1, h2⟩ := h
 obtain ⟨l, rfl, hl⟩ := h1.sl_ shp41 Step.cells (OkB Step.ok) (fun n' ds m hn h => rdStep n' ds m h)
 exact ⟨l, by rw [h2]; rfl, Nat.le_of_lt hl.len, (hl.ok hm).2⟩
end Go.Proofs.YtacclfgmgphljaaGreat.Dx
/- Chapter 10: a tie rule does not tell apart what lies between its tests; what Compile returns is the tree of the rule. -/
namespace Go.Proofs.YtacclfgmgphljaaGreat.Dx
open Go Go.RowKit
set_option maxRecDepth 100000
end Go.Proofs.YtacclfgmgphljaaGreat.Dx
/- Chapter 10: environments of the laws, the reference's tests. -/
namespace Go.Proofs.YtacclfgmgphljaaGreat.Dx
open Go Go.RowKit
set_option maxRecDepth 100000
set_option maxHeartbeats 16000000
end Go.Proofs.YtacclfgmgphljaaGreat.Dx
