/- Chapter 06: the law's writer of conditions and of steps. -/
import Derived.Test.YtaopegkpjhkooaaGreatDoorCe
import Derived.Test.YtaopegkpjhkooaaGreatDoorBm
import Derived.Test.YtaopegkpjhkooaaGreatDoorBk
set_option linter.all false
namespace Go.Proofs.YtaopegkpjhkooaaGreatDoor.Dx
open Go Go.RowKit Go.Proofs
set_option maxRecDepth 100000
set_option maxHeartbeats 16000000
theorem condText_meets : ∀ (k : Nat) (hk : k ≤ 8) (c : Cond), Meets Tryz.prog 29 [c.d, iD (8 - (k : Int))] fun r => r = .tup [.str (cTx k c).1, bD (cTx k c).2]
 | 0, _, c => by
   refine enter tok {} Tryz.func29 rfl (by kernel_rfl) Tryz.ntmps29 (by simp) fun B0 W0 V0 lent g0 => ?_
   ((conv => whnf); repeat' (refine Z rfl ?_; conv => whnf))
   refine ⟨fun h => ?_, fun h => ?_⟩ <;> (try simp only [BL] at h) <;> ((conv => whnf); repeat' (refine Z rfl ?_; conv => whnf))
   · exact ⟨rfl⟩
   · exact absurd h (by decide)
 | k + 1, hk, c => by
   have ih := condText_meets k (by omega)
   have hle := fun p => cTx_le (show k ≤ 8 by omega) p
   have hd : (8 - ((k + 1 : Nat) : Int)) + 1 = 8 - (k : Int) := by omega
   obtain ⟨dd, hdd⟩ : ∃ dd : Int, dd = 8 - ((k + 1 : Nat) : Int) := ⟨_, rfl⟩
   rw [← hdd] at hd ⊢
   rw [← hd] at ih
   have e := cTx.eq_2 c k
   by_cases hk1 : c.kind = 1
   · rw [if_pos hk1] at e
     exact condText_leaf k c dd hd hk1 _ e
   rw [if_neg hk1] at e
   by_cases hk4 : c.kind = 4
   · rw [if_pos hk4] at e
     exact condText_not k c dd hd ih hle hk4 _ e
   rw [if_neg hk4] at e
   by_cases hv : (c.kind = 2 ∨ c.kind = 3) ∧ (2 ≤ c.parts.length ∧ c.parts.length ≤ 16) ∧ c.var = 0 ∧ c.n = 0
   · refine condText_join k c dd hd ih hle hv.1 hv.2.1 hv.2.2.1 hv.2.2.2 _ ?_
     rw [e]
     by_cases ha : c.parts.all (fun p => (cTx k p).2) = true
     · rw [if_pos ⟨hv.1, hv.2.1, hv.2.2.1, hv.2.2.2, ha⟩, if_pos ha]
     · rw [if_neg (fun h => ha h.2.2.2.2), if_neg ha]
   · rw [if_neg (fun h => hv ⟨h.1, h.2.1, h.2.2.1, h.2.2.2.1⟩)] at e
     rw [e]
     exact condText_bad k c dd hd hk1 hk4 hv
theorem critN_len (b : Int) : (critN b).length ≤ 7 := by unfold critN; split <;> decide
/-- bounds of texts, by levels -/
def gB : Nat → Nat
 | 0 => 0
 | k + 1 => 12 * (171798691900 + 2 * gB k)
theorem gB5 {k : Nat} (hk : k ≤ 5) : gB k ≤ 900000000000000000 := by
 have : k = 0 ∨ k = 1 ∨ k = 2 ∨ k = 3 ∨ k = 4 ∨ k = 5 := by omega
 rcases this with rfl | rfl | rfl | rfl | rfl | rfl <;> decide
theorem flat_len (f : Step → List UInt8) (B : Nat) : ∀ l : List Step, (∀ s ∈ l, (f s).length ≤ B) → ((l.map f).flatten).length ≤ l.length * B
 | [], _ => by simp
 | s :: l, h => by
   have h1 := h s (by simp)
   have h2 := flat_len f B l fun x hx => h x (List.mem_cons_of_mem _ hx)
   simp only [List.map_cons, List.flatten_cons, List.length_append, List.length_cons, Nat.succ_mul]
   omega
theorem oneT_len {F : List Step → List UInt8 × Bool} {B : Nat} (hF : ∀ l, (F l).1.length ≤ B) (s : Step) : (oneT F s).1.length ≤ 171798691900 + 2 * B := by
 have h1 := critN_len s.crit
 have h2 := cTx_le (k := 8) (by omega) s.cond
 have h3 := hF s.th
 have h4 := hF s.el
 unfold oneT
 split
 · split
   · simp only [List.length_append, List.length_cons, List.length_nil]; omega
   · simp
 · split
   · split
     · simp only [List.length_append, List.length_cons, List.length_nil]; omega
     · simp only [List.length_append, List.length_cons, List.length_nil]; omega
   · simp
theorem sTx_len : ∀ (k : Nat) (l : List Step), (sTx k l).1.length ≤ gB k
 | 0, l => by simp [sTx]
 | k + 1, l => by
   have ih := sTx_len k
   unfold sTx
   split
   · rename_i h
     have := flat_len (fun s => (oneT (sTx k) s).1) _ l fun s _ => oneT_len ih s
     have h2 := Nat.mul_le_mul_right (171798691900 + 2 * gB k) h.1.2
     simp only [gB]
     omega
   · simp
end Go.Proofs.YtaopegkpjhkooaaGreatDoor.Dx
/- Chapter 06: conditions and steps that are arguments: typed cells are one of them, and not too long. -/
namespace Go.Proofs.YtaopegkpjhkooaaGreatDoor.Dx
open Go Go.RowKit
set_option maxRecDepth 100000
mutual
def Cond.ok : Cond → Prop
 | ⟨_, _, _, ps⟩ => ps.length ≤ 1048576 ∧ Cond.okL ps
def Cond.okL : List Cond → Prop
 | [] => True
 | c :: cs => c.ok ∧ Cond.okL cs
end
theorem Cond.okL_iff : ∀ {cs : List Cond}, Cond.okL cs ↔ ∀ c ∈ cs, c.ok := by
 intro cs
 induction cs with
 | nil => simp [Cond.okL]
 | cons c cs ih => simp [Cond.okL, ih]
theorem Cond.ok_iff {c : Cond} : c.ok ↔ c.parts.length ≤ 1048576 ∧ ∀ x ∈ c.parts, x.ok := by obtain ⟨k, v, n, ps⟩ := c; simp only [Cond.ok, Cond.okL_iff]
mutual
def Step.ok : Step → Prop
 | ⟨_, _, c, t, e⟩ => c.ok ∧ (t.length ≤ 1048576 ∧ Step.okL t) ∧ e.length ≤ 1048576 ∧ Step.okL e
def Step.okL : List Step → Prop
 | [] => True
 | c :: cs => c.ok ∧ Step.okL cs
end
theorem Step.okL_iff : ∀ {cs : List Step}, Step.okL cs ↔ ∀ c ∈ cs, c.ok := by
 intro cs
 induction cs with
 | nil => simp [Step.okL]
 | cons c cs ih => simp [Step.okL, ih]
theorem Step.ok_iff {s : Step} : s.ok ↔ s.cond.ok ∧ (s.th.length ≤ 1048576 ∧ ∀ x ∈ s.th, x.ok) ∧ s.el.length ≤ 1048576 ∧ ∀ x ∈ s.el, x.ok := by obtain ⟨k, b, c, t, e⟩ := s; simp only [Step.ok, Step.okL_iff]
theorem sh3 : shp T 3 = some (.i .i64) := rfl
theorem sh24 : shp T 24 = some (.sl 26) := rfl
theorem sh26 : shp T 26 = some (.st [3, 3, 3, 24]) := rfl
theorem sh73 : shp T 73 = some (.st [3, 3, 26, 38, 38]) := rfl
theorem sh38 : shp T 38 = some (.sl 73) := rfl
theorem tInt {n : Nat} {ds : List D} {m : Nat} (h : TyD T n 3 ds m) : ∃ i, ds = [iD i] := h.int_ sh3
def OkB {α : Type} (p : α → Prop) (x : α) (m : Nat) : Prop := m ≤ 1048576 → p x
theorem ListOf.ok {α : Type} {p : α → Prop} {l : List α} {m : Nat} (h : ListOf (OkB p) l m) (hm : m ≤ 1048576) : l.length ≤ 1048576 ∧ ∀ x ∈ l, p x :=
 ⟨by have := h.len; omega, fun x hx => by obtain ⟨m', h1, h2⟩ := h.all x hx; exact h2 (by omega)⟩
theorem rdCond : ∀ (n : Nat) (ds : List D) (m : Nat), TyD T n 26 ds m → ∃ c : Cond, ds = c.cells ∧ OkB Cond.ok c m := by
 intro n
 induction n using Nat.strongRecOn with
 | ind n IH =>
   intro ds m h
   obtain ⟨k, rfl, xs, ms, rfl, h, hs⟩ := h.st_ sh26
   obtain ⟨x1, xs, m1, ms, rfl, rfl, h1, h⟩ := tyF_cons h
   obtain ⟨x2, xs, m2, ms, rfl, rfl, h2, h⟩ := tyF_cons h
   obtain ⟨x3, xs, m3, ms, rfl, rfl, h3, h⟩ := tyF_cons h
   obtain ⟨x4, xs, m4, ms, rfl, rfl, h4, h⟩ := tyF_cons h
   obtain ⟨rfl, rfl⟩ := tyF_nil h
   obtain ⟨i1, rfl⟩ := tInt h1
   obtain ⟨i2, rfl⟩ := tInt h2
   obtain ⟨i3, rfl⟩ := tInt h3
   obtain ⟨l, rfl, hl⟩ := h4.sl_ sh24 Cond.cells (OkB Cond.ok) (fun n' ds m hn h => IH n' (by omega) ds m h)
   simp only [List.sum_cons, List.sum_nil] at hs
   refine ⟨⟨i1, i2, i3, l⟩, by simp [Cond.cells_eq], fun hm => ?_⟩
   obtain ⟨k1, k2⟩ := hl.ok (by omega)
   exact ⟨k1, Cond.okL_iff.2 k2⟩
theorem rdStep : ∀ (n : Nat) (ds : List D) (m : Nat), TyD T n 73 ds m → ∃ c : Step, ds = c.cells ∧ OkB Step.ok c m := by
 intro n
 induction n using Nat.strongRecOn with
 | ind n IH =>
   intro ds m h
   obtain ⟨k, rfl, xs, ms, rfl, h, hs⟩ := h.st_ sh73
   obtain ⟨x1, xs, m1, ms, rfl, rfl, h1, h⟩ := tyF_cons h
   obtain ⟨x2, xs, m2, ms, rfl, rfl, h2, h⟩ := tyF_cons h
   obtain ⟨x3, xs, m3, ms, rfl, rfl, h3, h⟩ := tyF_cons h
   obtain ⟨x4, xs, m4, ms, rfl, rfl, h4, h⟩ := tyF_cons h
   obtain ⟨x5, xs, m5, ms, rfl, rfl, h5, h⟩ := tyF_cons h
   obtain ⟨rfl, rfl⟩ := tyF_nil h
   obtain ⟨i1, rfl⟩ := tInt h1
   obtain ⟨i2, rfl⟩ := tInt h2
   obtain ⟨c, rfl, hc⟩ := rdCond _ _ _ h3
   obtain ⟨l, rfl, hl⟩ := h4.sl_ sh38 Step.cells (OkB Step.ok) (fun n' ds m hn h => IH n' (by omega) ds m h)
   obtain ⟨l', rfl, hl'⟩ := h5.sl_ sh38 Step.cells (OkB Step.ok) (fun n' ds m hn h => IH n' (by omega) ds m h)
   simp only [List.sum_cons, List.sum_nil] at hs
   refine ⟨⟨i1, i2, c, l, l'⟩, by simp [Step.cells_eq, Cond.cells_eq], fun hm => ?_⟩
   obtain ⟨k1, k2⟩ := hl.ok (by omega)
   obtain ⟨k3, k4⟩ := hl'.ok (by omega)
   exact ⟨hc (by omega), ⟨k1, Step.okL_iff.2 k2⟩, k3, Step.okL_iff.2 k4⟩
theorem vSteps {d : D} {m : Nat} (h : TyV T 38 d m) (hm : m ≤ 1048576) : ∃ l : List Step, d = .sl (l.map Step.cells) ∧ l.length ≤ 1048576 ∧ ∀ s ∈ l, s.ok := by
 obtain ⟨n, cs, h1, h2⟩ := h
 obtain ⟨l, rfl, hl⟩ := h1.sl_ sh38 Step.cells (OkB Step.ok) (fun n' ds m hn h => rdStep n' ds m h)
 exact ⟨l, by rw [h2]; rfl, hl.ok hm⟩
theorem closedS : closedB T [3, 4, 24, 26, 38, 73] = true := rfl
end Go.Proofs.YtaopegkpjhkooaaGreatDoor.Dx
