/- Direct in the reference; lists of numbers. -/
import Derived.Test.YtiejhmfeppflaaaGreatMq
namespace Go.Proofs.YtiejhmfeppflaaaGreat.Dx
open Go Go.RowKit
set_option linter.all false
set_option maxRecDepth 100000
set_option maxHeartbeats 8000000

def hasI (l : List Int) (n : Int) : Bool := l.any fun x => decide (x = n)

theorem In_meets (l : List Int) (n : Int) : Meets Tryz.prog 24 [.sl (l.map icells), iD n] fun d => d = bD (hasI l n) := by
  refine enter tok {} Tryz.func24 rfl (by kernel_rfl) Tryz.ntmps24 (by simp) fun B0 W0 V0 lent g0 => ?_
  ((conv => whnf); repeat' (refine vcC_go tok {} rfl ?_; conv => whnf))
  refine loop_upd tok {} [] (X := Nat) (fun i => [(5, iB i)]) (fun _ => []) [] (fun i => i ≤ l.length ∧ ∀ x ∈ l.take i, decide (x = n) = false) (fun i => l.length - i) 0 ?_
  ((conv => whnf); repeat' (refine vcC_go tok {} rfl ?_; conv => whnf))
  refine And.intro ?_ ⟨⟨by omega, by simp⟩, fun i hΦ => ?_⟩
  · repeat' (first | exact True.intro | exact rfl | refine And.intro ?_ ?_)
  obtain ⟨hi, hp⟩ := hΦ
  ((conv => whnf); repeat' (refine vcC_go tok {} rfl ?_; conv => whnf))
  repeat' ((first | (intro hlq; (try simp only [List.length_map, maxLen] at hlq)) | refine ⟨fun h1 h2 => ⟨by have := h1.1; have := h1.2; have := h2.1; have := h2.2; (try dsimp only at *); first | omega | (simp only [List.length_map] at *; omega), by have := h1.1; have := h1.2; have := h2.1; have := h2.2; (try dsimp only at *); first | omega | (simp only [List.length_map] at *; omega)⟩, ?_⟩ | refine ⟨⟨(by (try dsimp only at *); omega : _ ≤ _), (by (try dsimp only at *); omega : _ < _)⟩, ?_⟩ | refine ⟨_, ⟨by (try dsimp only at *); omega, getD_at _ (by (try dsimp only at *); (try simp only [List.length_map] at *); omega) (rfl), rfl⟩, ?_⟩ | refine ⟨_, ⟨by (try dsimp only at *); omega, getD_at _ (by (try dsimp only at *); (try simp only [List.length_map] at *); omega) (Cond.cells_eq _), rfl⟩, ?_⟩ | refine ⟨_, ⟨by (try dsimp only at *); omega, str_at (by (try dsimp only at *); (try simp only [List.length_map] at *); omega)⟩, ?_⟩ | refine ⟨(rfl : look _ _ = look _ _), ?_⟩ | fail) <;> ((conv => whnf); repeat' (refine vcC_go tok {} rfl ?_; conv => whnf)))
  refine ⟨fun h1 => ?_, fun h1 => ?_⟩ <;> (try simp only [BB, List.length_map] at h1) <;> ((conv => whnf); repeat' (refine vcC_go tok {} rfl ?_; conv => whnf))
  · have h1' : i < l.length := by omega
    repeat' ((first | (intro hlq; (try simp only [List.length_map, maxLen] at hlq)) | refine ⟨fun h1 h2 => ⟨by have := h1.1; have := h1.2; have := h2.1; have := h2.2; (try dsimp only at *); first | omega | (simp only [List.length_map] at *; omega), by have := h1.1; have := h1.2; have := h2.1; have := h2.2; (try dsimp only at *); first | omega | (simp only [List.length_map] at *; omega)⟩, ?_⟩ | refine ⟨⟨(by (try dsimp only at *); omega : _ ≤ _), (by (try dsimp only at *); omega : _ < _)⟩, ?_⟩ | refine ⟨_, ⟨by (try dsimp only at *); omega, getD_at _ (by (try dsimp only at *); (try simp only [List.length_map] at *); omega) (rfl), rfl⟩, ?_⟩ | refine ⟨_, ⟨by (try dsimp only at *); omega, getD_at _ (by (try dsimp only at *); (try simp only [List.length_map] at *); omega) (icells_eq _), rfl⟩, ?_⟩ | refine ⟨_, ⟨by (try dsimp only at *); omega, str_at (by (try dsimp only at *); (try simp only [List.length_map] at *); omega)⟩, ?_⟩ | refine ⟨(rfl : look _ _ = look _ _), ?_⟩ | fail) <;> ((conv => whnf); repeat' (refine vcC_go tok {} rfl ?_; conv => whnf)))
    refine ⟨fun h2 => ?_, fun h2 => ?_⟩ <;> (try simp only [BB, List.length_map] at h2) <;> ((conv => whnf); repeat' (refine vcC_go tok {} rfl ?_; conv => whnf))
    · refine ⟨congrArg bD ?_⟩
      rw [hasI, List.any_eq_true.2 ⟨_, List.getElem_mem h1', decide_eq_true h2⟩]
    · repeat' ((first | (intro hlq; (try simp only [List.length_map, maxLen] at hlq)) | refine ⟨fun h1 h2 => ⟨by have := h1.1; have := h1.2; have := h2.1; have := h2.2; (try dsimp only at *); first | omega | (simp only [List.length_map] at *; omega), by have := h1.1; have := h1.2; have := h2.1; have := h2.2; (try dsimp only at *); first | omega | (simp only [List.length_map] at *; omega)⟩, ?_⟩ | refine ⟨⟨(by (try dsimp only at *); omega : _ ≤ _), (by (try dsimp only at *); omega : _ < _)⟩, ?_⟩ | refine ⟨_, ⟨by (try dsimp only at *); omega, getD_at _ (by (try dsimp only at *); (try simp only [List.length_map] at *); omega) (rfl), rfl⟩, ?_⟩ | refine ⟨_, ⟨by (try dsimp only at *); omega, getD_at _ (by (try dsimp only at *); (try simp only [List.length_map] at *); omega) (Cond.cells_eq _), rfl⟩, ?_⟩ | refine ⟨_, ⟨by (try dsimp only at *); omega, str_at (by (try dsimp only at *); (try simp only [List.length_map] at *); omega)⟩, ?_⟩ | refine ⟨(rfl : look _ _ = look _ _), ?_⟩ | fail) <;> ((conv => whnf); repeat' (refine vcC_go tok {} rfl ?_; conv => whnf)))
      refine ⟨⟨i + 1, ?_, ⟨by omega, take_snoc h1' hp (decide_eq_false h2)⟩, by omega⟩⟩
      repeat' (first | exact True.intro | exact rfl | refine And.intro ?_ ?_)
  · refine ⟨congrArg bD ?_⟩
    rw [List.take_of_length_le (by omega)] at hp
    rw [hasI, any_take hp]

theorem Index_meets (l : List Int) (n : Int) : Meets Tryz.prog 113 [.sl (l.map icells), iD n] fun d => ∃ r : Int, d = iD r ∧ decide (r ≥ 0) = hasI l n := by
  refine enter tok {} Tryz.func113 rfl (by kernel_rfl) Tryz.ntmps113 (by simp) fun B0 W0 V0 lent g0 => ?_
  ((conv => whnf); repeat' (refine vcC_go tok {} rfl ?_; conv => whnf))
  repeat' ((first | (intro hlq; (try simp only [List.length_map, maxLen] at hlq)) | refine ⟨fun h1 h2 => ⟨by have := h1.1; have := h1.2; have := h2.1; have := h2.2; (try dsimp only at *); first | omega | (simp only [List.length_map] at *; omega), by have := h1.1; have := h1.2; have := h2.1; have := h2.2; (try dsimp only at *); first | omega | (simp only [List.length_map] at *; omega)⟩, ?_⟩ | refine ⟨⟨(by (try dsimp only at *); omega : _ ≤ _), (by (try dsimp only at *); omega : _ < _)⟩, ?_⟩ | refine ⟨_, ⟨by (try dsimp only at *); omega, getD_at _ (by (try dsimp only at *); (try simp only [List.length_map] at *); omega) (rfl), rfl⟩, ?_⟩ | refine ⟨_, ⟨by (try dsimp only at *); omega, getD_at _ (by (try dsimp only at *); (try simp only [List.length_map] at *); omega) (Cond.cells_eq _), rfl⟩, ?_⟩ | refine ⟨_, ⟨by (try dsimp only at *); omega, str_at (by (try dsimp only at *); (try simp only [List.length_map] at *); omega)⟩, ?_⟩ | refine ⟨(rfl : look _ _ = look _ _), ?_⟩ | fail) <;> ((conv => whnf); repeat' (refine vcC_go tok {} rfl ?_; conv => whnf)))
  refine loop_upd tok {} [] (X := Nat) (fun i => [(8, iB i)]) (fun _ => []) [] (fun i => i ≤ l.length ∧ ∀ x ∈ l.take i, decide (x = n) = false) (fun i => l.length - i) 0 ?_
  ((conv => whnf); repeat' (refine vcC_go tok {} rfl ?_; conv => whnf))
  refine And.intro ?_ ⟨⟨by omega, by simp⟩, fun i hΦ => ?_⟩
  · repeat' (first | exact True.intro | exact rfl | refine And.intro ?_ ?_)
  obtain ⟨hi, hp⟩ := hΦ
  ((conv => whnf); repeat' (refine vcC_go tok {} rfl ?_; conv => whnf))
  refine ⟨fun h1 => ?_, fun h1 => ?_⟩ <;> (try simp only [BB, List.length_map] at h1) <;> ((conv => whnf); repeat' (refine vcC_go tok {} rfl ?_; conv => whnf))
  · have h1' : i < l.length := by omega
    repeat' ((first | (intro hlq; (try simp only [List.length_map, maxLen] at hlq)) | refine ⟨fun h1 h2 => ⟨by have := h1.1; have := h1.2; have := h2.1; have := h2.2; (try dsimp only at *); first | omega | (simp only [List.length_map] at *; omega), by have := h1.1; have := h1.2; have := h2.1; have := h2.2; (try dsimp only at *); first | omega | (simp only [List.length_map] at *; omega)⟩, ?_⟩ | refine ⟨⟨(by (try dsimp only at *); omega : _ ≤ _), (by (try dsimp only at *); omega : _ < _)⟩, ?_⟩ | refine ⟨_, ⟨by (try dsimp only at *); omega, getD_at _ (by (try dsimp only at *); (try simp only [List.length_map] at *); omega) (rfl), rfl⟩, ?_⟩ | refine ⟨_, ⟨by (try dsimp only at *); omega, getD_at _ (by (try dsimp only at *); (try simp only [List.length_map] at *); omega) (icells_eq _), rfl⟩, ?_⟩ | refine ⟨_, ⟨by (try dsimp only at *); omega, str_at (by (try dsimp only at *); (try simp only [List.length_map] at *); omega)⟩, ?_⟩ | refine ⟨(rfl : look _ _ = look _ _), ?_⟩ | fail) <;> ((conv => whnf); repeat' (refine vcC_go tok {} rfl ?_; conv => whnf)))
    refine ⟨fun h2 => ?_, fun h2 => ?_⟩ <;> (try simp only [BB, List.length_map] at h2) <;> ((conv => whnf); repeat' (refine vcC_go tok {} rfl ?_; conv => whnf))
    · refine ⟨_, rfl, ?_⟩
      rw [hasI, List.any_eq_true.2 ⟨_, List.getElem_mem h1', decide_eq_true h2.symm⟩]
      simp
    · repeat' ((first | (intro hlq; (try simp only [List.length_map, maxLen] at hlq)) | refine ⟨fun h1 h2 => ⟨by have := h1.1; have := h1.2; have := h2.1; have := h2.2; (try dsimp only at *); first | omega | (simp only [List.length_map] at *; omega), by have := h1.1; have := h1.2; have := h2.1; have := h2.2; (try dsimp only at *); first | omega | (simp only [List.length_map] at *; omega)⟩, ?_⟩ | refine ⟨⟨(by (try dsimp only at *); omega : _ ≤ _), (by (try dsimp only at *); omega : _ < _)⟩, ?_⟩ | refine ⟨_, ⟨by (try dsimp only at *); omega, getD_at _ (by (try dsimp only at *); (try simp only [List.length_map] at *); omega) (rfl), rfl⟩, ?_⟩ | refine ⟨_, ⟨by (try dsimp only at *); omega, getD_at _ (by (try dsimp only at *); (try simp only [List.length_map] at *); omega) (Cond.cells_eq _), rfl⟩, ?_⟩ | refine ⟨_, ⟨by (try dsimp only at *); omega, str_at (by (try dsimp only at *); (try simp only [List.length_map] at *); omega)⟩, ?_⟩ | refine ⟨(rfl : look _ _ = look _ _), ?_⟩ | fail) <;> ((conv => whnf); repeat' (refine vcC_go tok {} rfl ?_; conv => whnf)))
      refine ⟨⟨i + 1, ?_, ⟨by omega, take_snoc h1' hp (decide_eq_false fun e => h2 e.symm)⟩, by omega⟩⟩
      repeat' (first | exact True.intro | exact rfl | refine And.intro ?_ ?_)
  · refine ⟨_, rfl, ?_⟩
    rw [List.take_of_length_le (by omega)] at hp
    rw [hasI, any_take hp]
    decide

theorem Contains_meets (l : List Int) (n : Int) : Meets Tryz.prog 56 [.sl (l.map icells), iD n] fun d => d = bD (hasI l n) := by
  refine enter tok {} Tryz.func56 rfl (by kernel_rfl) Tryz.ntmps56 (by simp) fun B0 W0 V0 lent g0 => ?_
  ((conv => whnf); repeat' (refine vcC_go tok {} rfl ?_; conv => whnf))
  refine (Index_meets l n).mono fun d hd => ?_
  obtain ⟨r, rfl, hr⟩ := hd
  ((conv => whnf); repeat' (refine vcC_go tok {} rfl ?_; conv => whnf))
  refine ⟨?_⟩
  rw [hr]

theorem Same_meets (a b : List Int) : Meets Tryz.prog 25 [.sl (a.map icells), .sl (b.map icells)] fun d => d = bD (decide (a = b)) := by
  refine enter tok {} Tryz.func25 rfl (by kernel_rfl) Tryz.ntmps25 (by simp) fun B0 W0 V0 lent g0 => ?_
  ((conv => whnf); repeat' (refine vcC_go tok {} rfl ?_; conv => whnf))
  repeat' ((first | (intro hlq; (try simp only [List.length_map, maxLen] at hlq)) | ((refine ⟨fun (hb : _ = true) => ?_, fun (hb : _ = false) => ?_⟩) <;> (try simp only [BB, List.length_map] at hb)) | refine ⟨fun h1 h2 => ⟨by have := h1.1; have := h1.2; have := h2.1; have := h2.2; (try dsimp only at *); first | omega | (simp only [List.length_map] at *; omega), by have := h1.1; have := h1.2; have := h2.1; have := h2.2; (try dsimp only at *); first | omega | (simp only [List.length_map] at *; omega)⟩, ?_⟩ | refine ⟨⟨(by (try dsimp only at *); omega : _ ≤ _), (by (try dsimp only at *); omega : _ < _)⟩, ?_⟩ | refine ⟨_, ⟨by (try dsimp only at *); omega, getD_at _ (by (try dsimp only at *); (try simp only [List.length_map] at *); omega) (rfl), rfl⟩, ?_⟩ | refine ⟨_, ⟨by (try dsimp only at *); omega, getD_at _ (by (try dsimp only at *); (try simp only [List.length_map] at *); omega) (Cond.cells_eq _), rfl⟩, ?_⟩ | refine ⟨_, ⟨by (try dsimp only at *); omega, str_at (by (try dsimp only at *); (try simp only [List.length_map] at *); omega)⟩, ?_⟩ | refine ⟨(rfl : look _ _ = look _ _), ?_⟩ | fail) <;> ((conv => whnf); repeat' (refine vcC_go tok {} rfl ?_; conv => whnf)))
  · refine ⟨congrArg bD ?_⟩
    rw [decide_eq_false]
    rintro rfl
    omega
  have hlen : a.length = b.length := by omega
  refine loop_upd tok {} [] (X := Nat) (fun i => [(5, iB i)]) (fun _ => []) [] (fun i => i ≤ a.length ∧ a.take i = b.take i) (fun i => a.length - i) 0 ?_
  ((conv => whnf); repeat' (refine vcC_go tok {} rfl ?_; conv => whnf))
  refine And.intro ?_ ⟨⟨by omega, by simp⟩, fun i hΦ => ?_⟩
  · repeat' (first | exact True.intro | exact rfl | refine And.intro ?_ ?_)
  obtain ⟨hi, hp⟩ := hΦ
  ((conv => whnf); repeat' (refine vcC_go tok {} rfl ?_; conv => whnf))
  repeat' ((first | (intro hlq; (try simp only [List.length_map, maxLen] at hlq)) | refine ⟨fun h1 h2 => ⟨by have := h1.1; have := h1.2; have := h2.1; have := h2.2; (try dsimp only at *); first | omega | (simp only [List.length_map] at *; omega), by have := h1.1; have := h1.2; have := h2.1; have := h2.2; (try dsimp only at *); first | omega | (simp only [List.length_map] at *; omega)⟩, ?_⟩ | refine ⟨⟨(by (try dsimp only at *); omega : _ ≤ _), (by (try dsimp only at *); omega : _ < _)⟩, ?_⟩ | refine ⟨_, ⟨by (try dsimp only at *); omega, getD_at _ (by (try dsimp only at *); (try simp only [List.length_map] at *); omega) (rfl), rfl⟩, ?_⟩ | refine ⟨_, ⟨by (try dsimp only at *); omega, getD_at _ (by (try dsimp only at *); (try simp only [List.length_map] at *); omega) (Cond.cells_eq _), rfl⟩, ?_⟩ | refine ⟨_, ⟨by (try dsimp only at *); omega, str_at (by (try dsimp only at *); (try simp only [List.length_map] at *); omega)⟩, ?_⟩ | refine ⟨(rfl : look _ _ = look _ _), ?_⟩ | fail) <;> ((conv => whnf); repeat' (refine vcC_go tok {} rfl ?_; conv => whnf)))
  refine ⟨fun h1 => ?_, fun h1 => ?_⟩ <;> (try simp only [BB, List.length_map] at h1) <;> ((conv => whnf); repeat' (refine vcC_go tok {} rfl ?_; conv => whnf))
  · have h1' : i < a.length := by omega
    refine draw_rule tok (cf := {}) (by kernel_rfl) [.p 0, .p 1, .p 2, .p 3, .p 4, .p 5, .p 6, .p 7, .p 8] (by kernel_rfl) ?_
    ((conv => whnf); repeat' (refine vcC_go tok {} rfl ?_; conv => whnf))
    repeat' ((first | (intro hlq; (try simp only [List.length_map, maxLen] at hlq)) | refine ⟨fun h1 h2 => ⟨by have := h1.1; have := h1.2; have := h2.1; have := h2.2; (try dsimp only at *); first | omega | (simp only [List.length_map] at *; omega), by have := h1.1; have := h1.2; have := h2.1; have := h2.2; (try dsimp only at *); first | omega | (simp only [List.length_map] at *; omega)⟩, ?_⟩ | refine ⟨⟨(by (try dsimp only at *); omega : _ ≤ _), (by (try dsimp only at *); omega : _ < _)⟩, ?_⟩ | refine ⟨_, ⟨by (try dsimp only at *); omega, getD_at _ (by (try dsimp only at *); (try simp only [List.length_map] at *); omega) (rfl), rfl⟩, ?_⟩ | refine ⟨_, ⟨by (try dsimp only at *); omega, getD_at _ (by (try dsimp only at *); (try simp only [List.length_map] at *); omega) (icells_eq _), rfl⟩, ?_⟩ | refine ⟨_, ⟨by (try dsimp only at *); omega, str_at (by (try dsimp only at *); (try simp only [List.length_map] at *); omega)⟩, ?_⟩ | refine ⟨(rfl : look _ _ = look _ _), ?_⟩ | fail) <;> ((conv => whnf); repeat' (refine vcC_go tok {} rfl ?_; conv => whnf)))
    refine ⟨fun h2 => ?_, fun h2 => ?_⟩ <;> (try simp only [BB, List.length_map] at h2) <;> ((conv => whnf); repeat' (refine vcC_go tok {} rfl ?_; conv => whnf))
    · refine ⟨congrArg bD ?_⟩
      rw [decide_eq_false]
      rintro rfl
      exact h2 rfl
    · repeat' ((first | (intro hlq; (try simp only [List.length_map, maxLen] at hlq)) | refine ⟨fun h1 h2 => ⟨by have := h1.1; have := h1.2; have := h2.1; have := h2.2; (try dsimp only at *); first | omega | (simp only [List.length_map] at *; omega), by have := h1.1; have := h1.2; have := h2.1; have := h2.2; (try dsimp only at *); first | omega | (simp only [List.length_map] at *; omega)⟩, ?_⟩ | refine ⟨⟨(by (try dsimp only at *); omega : _ ≤ _), (by (try dsimp only at *); omega : _ < _)⟩, ?_⟩ | refine ⟨_, ⟨by (try dsimp only at *); omega, getD_at _ (by (try dsimp only at *); (try simp only [List.length_map] at *); omega) (rfl), rfl⟩, ?_⟩ | refine ⟨_, ⟨by (try dsimp only at *); omega, getD_at _ (by (try dsimp only at *); (try simp only [List.length_map] at *); omega) (Cond.cells_eq _), rfl⟩, ?_⟩ | refine ⟨_, ⟨by (try dsimp only at *); omega, str_at (by (try dsimp only at *); (try simp only [List.length_map] at *); omega)⟩, ?_⟩ | refine ⟨(rfl : look _ _ = look _ _), ?_⟩ | fail) <;> ((conv => whnf); repeat' (refine vcC_go tok {} rfl ?_; conv => whnf)))
      refine ⟨⟨i + 1, ?_, ⟨by omega, ?_⟩, by omega⟩⟩
      · repeat' (first | exact True.intro | exact rfl | refine And.intro ?_ ?_)
      rw [List.take_succ_eq_append_getElem h1', List.take_succ_eq_append_getElem (by omega : i < b.length), hp, Classical.byContradiction h2]
  · refine ⟨congrArg bD ?_⟩
    rw [List.take_of_length_le (by omega), List.take_of_length_le (by omega)] at hp
    rw [decide_eq_true hp]

/-! what valid steps apply -/
mutual
def Step.app (x : Env) : Step → List Int → List Int
  | ⟨k, b, c, t, e⟩, acc => if k = 2 then (if c.holds x then Step.appL x t acc else Step.appL x e acc) else (if hasI acc b then acc else acc ++ [b])
def Step.appL (x : Env) : List Step → List Int → List Int
  | [], acc => acc
  | s :: ss, acc => Step.appL x ss (Step.app x s acc)
end
theorem app_eq (x : Env) (s : Step) (acc : List Int) : Step.app x s acc = if s.kind = 2 then (if s.cond.holds x then Step.appL x s.th acc else Step.appL x s.el acc) else (if hasI acc s.crit then acc else acc ++ [s.crit]) := by
  obtain ⟨k, b, c, t, e⟩ := s; simp only [Step.app]
mutual
theorem app_len (x : Env) : ∀ (s : Step) (acc : List Int), (Step.app x s acc).length ≤ acc.length + s.nst
  | ⟨k, b, c, t, e⟩, acc => by
    have h1 := appL_len x t acc
    have h2 := appL_len x e acc
    simp only [Step.app, Step.nst]
    split
    · split <;> omega
    · split
      · omega
      · rw [List.length_append, List.length_singleton]; omega
theorem appL_len (x : Env) : ∀ (l : List Step) (acc : List Int), (Step.appL x l acc).length ≤ acc.length + Step.nstL l
  | [], acc => by simp [Step.appL]
  | s :: ss, acc => by
    have h1 := app_len x s acc
    have h2 := appL_len x ss (Step.app x s acc)
    simp only [Step.appL, Step.nstL]
    omega
end
theorem valid_kind {s : Step} (h : s.valid = true) : (s.kind = 1) ∨ (s.kind = 2 ∧ s.cond.valid = true ∧ (∀ z ∈ s.th, z.valid = true) ∧ ∀ z ∈ s.el, z.valid = true) := by
  rw [Step.valid_eq] at h
  split at h
  · exact .inl (by assumption)
  · split at h
    · simp only [Bool.and_eq_true, List.all_eq_true] at h
      exact .inr ⟨by assumption, h.2.1, h.2.2.2.1, h.2.2.2.2⟩
    · cases h
theorem nstL_drop : ∀ {l : List Step} {i : Nat} (h : i < l.length), Step.nstL (l.drop i) = l[i].nst + Step.nstL (l.drop (i + 1)) := by
  intro l i h
  rw [List.drop_eq_getElem_cons h, Step.nstL]

end Go.Proofs.YtiejhmfeppflaaaGreat.Dx

/- applied. -/
namespace Go.Proofs.YtiejhmfeppflaaaGreat.Dx
open Go Go.RowKit
set_option linter.all false
set_option maxRecDepth 100000
set_option maxHeartbeats 8000000

theorem applied_meets (l : List Step) (x : Env) (acc : List Int) (hv : ∀ s ∈ l, s.valid = true) (hb : acc.length + Step.nstL l ≤ 1048576) :
    Meets Tryz.prog 114 [.sl (l.map Step.cells), x.d, .sl (acc.map icells)] fun d => d = .sl ((Step.appL x l acc).map icells) := by
  refine enter tok {} Tryz.func114 rfl (by kernel_rfl) Tryz.ntmps114 (by simp) fun B0 W0 V0 lent g0 => ?_
  ((conv => whnf); repeat' (refine vcC_go tok {} rfl ?_; conv => whnf))
  refine loop_upd tok {} [] (X := Nat × List (List D)) (fun s => [(7, iB s.1), (2, .d (.sl s.2))]) (fun _ => []) [8, 29] (fun s => s.1 ≤ l.length ∧ ∃ ws, s.2 = ws.map icells ∧ Step.appL x (l.drop s.1) ws = Step.appL x l acc ∧ ws.length + Step.nstL (l.drop s.1) ≤ 1048576) (fun s => l.length - s.1) (0, acc.map icells) ?_
  ((conv => whnf); repeat' (refine vcC_go tok {} rfl ?_; conv => whnf))
  refine And.intro ?_ ⟨⟨by omega, acc, rfl, by simp, by simpa using hb⟩, fun s hΦ => ?_⟩
  · repeat' (first | exact True.intro | exact rfl | refine And.intro ?_ ?_)
  obtain ⟨i, xs⟩ := s
  obtain ⟨hi, ws, hxs, heq, hlb⟩ := hΦ
  dsimp only at hi hxs heq hlb
  ((conv => whnf); repeat' (refine vcC_go tok {} rfl ?_; conv => whnf))
  repeat' ((first | (intro hlq; (try simp only [List.length_map, maxLen] at hlq)) | refine ⟨fun h1 h2 => ⟨by have := h1.1; have := h1.2; have := h2.1; have := h2.2; (try dsimp only at *); first | omega | (simp only [List.length_map] at *; omega), by have := h1.1; have := h1.2; have := h2.1; have := h2.2; (try dsimp only at *); first | omega | (simp only [List.length_map] at *; omega)⟩, ?_⟩ | refine ⟨⟨(by (try dsimp only at *); omega : _ ≤ _), (by (try dsimp only at *); omega : _ < _)⟩, ?_⟩ | refine ⟨_, ⟨by (try dsimp only at *); omega, getD_at _ (by (try dsimp only at *); (try simp only [List.length_map] at *); omega) (rfl), rfl⟩, ?_⟩ | refine ⟨_, ⟨by (try dsimp only at *); omega, getD_at _ (by (try dsimp only at *); (try simp only [List.length_map] at *); omega) (Cond.cells_eq _), rfl⟩, ?_⟩ | refine ⟨_, ⟨by (try dsimp only at *); omega, str_at (by (try dsimp only at *); (try simp only [List.length_map] at *); omega)⟩, ?_⟩ | refine ⟨(rfl : look _ _ = look _ _), ?_⟩ | fail) <;> ((conv => whnf); repeat' (refine vcC_go tok {} rfl ?_; conv => whnf)))
  refine ⟨fun h1 => ?_, fun h1 => ?_⟩ <;> (try simp only [BB, List.length_map] at h1) <;> ((conv => whnf); repeat' (refine vcC_go tok {} rfl ?_; conv => whnf))
  · have h1' : i < l.length := by omega
    have hvi := valid_kind (hv _ (List.getElem_mem h1'))
    have hap := app_eq x l[i] ws
    have hln := app_len x l[i] ws
    have hn1 := l[i].nst_eq
    have hxl : xs.length = ws.length := by rw [hxs, List.length_map]
    rw [nstL_drop h1'] at hlb
    rw [List.drop_eq_getElem_cons h1', Step.appL] at heq
    repeat' ((first | (intro hlq; (try simp only [List.length_map, maxLen] at hlq)) | refine ⟨fun h1 h2 => ⟨by have := h1.1; have := h1.2; have := h2.1; have := h2.2; (try dsimp only at *); first | omega | (simp only [List.length_map] at *; omega), by have := h1.1; have := h1.2; have := h2.1; have := h2.2; (try dsimp only at *); first | omega | (simp only [List.length_map] at *; omega)⟩, ?_⟩ | refine ⟨⟨(by (try dsimp only at *); omega : _ ≤ _), (by (try dsimp only at *); omega : _ < _)⟩, ?_⟩ | refine ⟨_, ⟨by (try dsimp only at *); omega, getD_at _ (by (try dsimp only at *); (try simp only [List.length_map] at *); omega) (rfl), rfl⟩, ?_⟩ | refine ⟨_, ⟨by (try dsimp only at *); omega, getD_at _ (by (try dsimp only at *); (try simp only [List.length_map] at *); omega) (Step.cells_eq _), rfl⟩, ?_⟩ | refine ⟨_, ⟨by (try dsimp only at *); omega, str_at (by (try dsimp only at *); (try simp only [List.length_map] at *); omega)⟩, ?_⟩ | refine ⟨(rfl : look _ _ = look _ _), ?_⟩ | fail) <;> ((conv => whnf); repeat' (refine vcC_go tok {} rfl ?_; conv => whnf)))
    refine ⟨fun h2 => ?_, fun h2 => ?_⟩ <;> (try simp only [BB, List.length_map] at h2) <;> ((conv => whnf); repeat' (refine vcC_go tok {} rfl ?_; conv => whnf))
    · have hk : ¬ l[i].kind = 2 := by omega
      rw [if_neg hk] at hap
      have hin := In_meets ws l[i].crit
      rw [← hxs] at hin
      refine Meets.k hin ?_
      ((conv => whnf); repeat' (refine vcC_go tok {} rfl ?_; conv => whnf))
      refine ⟨fun h3 => ?_, fun h3 => ?_⟩ <;> (try simp only [BB, List.length_map] at h3) <;> ((conv => whnf); repeat' (refine vcC_go tok {} rfl ?_; conv => whnf))
      · refine draw_rule tok (cf := {}) (by kernel_rfl) [.p 0, .p 1, .p 3, .p 4, .p 5, .s 2 [0,1], .s 6 [5,4,3], .p 7] (by kernel_rfl) ?_
        ((conv => whnf); repeat' (refine vcC_go tok {} rfl ?_; conv => whnf))
        refine ⟨fun ds hds => by rw [hxs] at hds; obtain ⟨f, _, rfl⟩ := List.mem_map.1 hds; rfl, ?_⟩
        ((conv => whnf); repeat' (refine vcC_go tok {} rfl ?_; conv => whnf))
        refine ⟨⟨fun _ _ => by simp; omega, by simp⟩, ?_⟩
        ((conv => whnf); repeat' (refine vcC_go tok {} rfl ?_; conv => whnf))
        repeat' ((first | (intro hlq; (try simp only [List.length_map, maxLen] at hlq)) | refine ⟨fun h1 h2 => ⟨by have := h1.1; have := h1.2; have := h2.1; have := h2.2; (try dsimp only at *); first | omega | (simp only [List.length_map] at *; omega), by have := h1.1; have := h1.2; have := h2.1; have := h2.2; (try dsimp only at *); first | omega | (simp only [List.length_map] at *; omega)⟩, ?_⟩ | refine ⟨⟨(by (try dsimp only at *); omega : _ ≤ _), (by (try dsimp only at *); omega : _ < _)⟩, ?_⟩ | refine ⟨_, ⟨by (try dsimp only at *); omega, getD_at _ (by (try dsimp only at *); (try simp only [List.length_map] at *); omega) (rfl), rfl⟩, ?_⟩ | refine ⟨_, ⟨by (try dsimp only at *); omega, getD_at _ (by (try dsimp only at *); (try simp only [List.length_map] at *); omega) (Cond.cells_eq _), rfl⟩, ?_⟩ | refine ⟨_, ⟨by (try dsimp only at *); omega, str_at (by (try dsimp only at *); (try simp only [List.length_map] at *); omega)⟩, ?_⟩ | refine ⟨(rfl : look _ _ = look _ _), ?_⟩ | fail) <;> ((conv => whnf); repeat' (refine vcC_go tok {} rfl ?_; conv => whnf)))
        refine ⟨by simp, ?_⟩
        ((conv => whnf); repeat' (refine vcC_go tok {} rfl ?_; conv => whnf))
        refine ⟨fun _ _ => by simp; omega, ?_⟩
        ((conv => whnf); repeat' (refine vcC_go tok {} rfl ?_; conv => whnf))
        repeat' ((first | (intro hlq; (try simp only [List.length_map, maxLen] at hlq)) | refine ⟨fun h1 h2 => ⟨by have := h1.1; have := h1.2; have := h2.1; have := h2.2; (try dsimp only at *); first | omega | (simp only [List.length_map] at *; omega), by have := h1.1; have := h1.2; have := h2.1; have := h2.2; (try dsimp only at *); first | omega | (simp only [List.length_map] at *; omega)⟩, ?_⟩ | refine ⟨⟨(by (try dsimp only at *); omega : _ ≤ _), (by (try dsimp only at *); omega : _ < _)⟩, ?_⟩ | refine ⟨_, ⟨by (try dsimp only at *); omega, getD_at _ (by (try dsimp only at *); (try simp only [List.length_map] at *); omega) (rfl), rfl⟩, ?_⟩ | refine ⟨_, ⟨by (try dsimp only at *); omega, getD_at _ (by (try dsimp only at *); (try simp only [List.length_map] at *); omega) (Cond.cells_eq _), rfl⟩, ?_⟩ | refine ⟨_, ⟨by (try dsimp only at *); omega, str_at (by (try dsimp only at *); (try simp only [List.length_map] at *); omega)⟩, ?_⟩ | refine ⟨(rfl : look _ _ = look _ _), ?_⟩ | fail) <;> ((conv => whnf); repeat' (refine vcC_go tok {} rfl ?_; conv => whnf)))
        refine ⟨⟨(i + 1, xs ++ [[iD l[i].crit]]), ?_, ⟨by dsimp only; omega, ws ++ [l[i].crit], by dsimp only; rw [hxs, List.map_append]; rfl, ?_, by dsimp only; simp; omega⟩, by dsimp only; omega⟩⟩
        · repeat' (first | exact True.intro | exact rfl | refine And.intro ?_ ?_)
        rw [← heq, hap, h3]; rfl
      · repeat' ((first | (intro hlq; (try simp only [List.length_map, maxLen] at hlq)) | refine ⟨fun h1 h2 => ⟨by have := h1.1; have := h1.2; have := h2.1; have := h2.2; (try dsimp only at *); first | omega | (simp only [List.length_map] at *; omega), by have := h1.1; have := h1.2; have := h2.1; have := h2.2; (try dsimp only at *); first | omega | (simp only [List.length_map] at *; omega)⟩, ?_⟩ | refine ⟨⟨(by (try dsimp only at *); omega : _ ≤ _), (by (try dsimp only at *); omega : _ < _)⟩, ?_⟩ | refine ⟨_, ⟨by (try dsimp only at *); omega, getD_at _ (by (try dsimp only at *); (try simp only [List.length_map] at *); omega) (rfl), rfl⟩, ?_⟩ | refine ⟨_, ⟨by (try dsimp only at *); omega, getD_at _ (by (try dsimp only at *); (try simp only [List.length_map] at *); omega) (Cond.cells_eq _), rfl⟩, ?_⟩ | refine ⟨_, ⟨by (try dsimp only at *); omega, str_at (by (try dsimp only at *); (try simp only [List.length_map] at *); omega)⟩, ?_⟩ | refine ⟨(rfl : look _ _ = look _ _), ?_⟩ | fail) <;> ((conv => whnf); repeat' (refine vcC_go tok {} rfl ?_; conv => whnf)))
        refine ⟨⟨(i + 1, xs), ?_, ⟨by dsimp only; omega, ws, hxs, ?_, by dsimp only; omega⟩, by dsimp only; omega⟩⟩
        · repeat' (first | exact True.intro | exact rfl | refine And.intro ?_ ?_)
        rw [← heq, hap, h3]; rfl
    · have hk : l[i].kind = 2 ∧ l[i].cond.valid = true ∧ (∀ z ∈ l[i].th, z.valid = true) ∧ ∀ z ∈ l[i].el, z.valid = true := by
        rcases hvi with h | h
        · exact absurd h h2
        · exact h
      rw [if_pos hk.1] at hap
      refine Meets.k (rholds_meets l[i].cond x hk.2.1) ?_
      ((conv => whnf); repeat' (refine vcC_go tok {} rfl ?_; conv => whnf))
      refine ⟨fun h3 => ?_, fun h3 => ?_⟩ <;> (try simp only [BB, List.length_map] at h3) <;> ((conv => whnf); repeat' (refine vcC_go tok {} rfl ?_; conv => whnf))
      · have hrec := applied_meets l[i].th x ws hk.2.2.1 (by omega)
        rw [← hxs] at hrec
        refine Meets.k hrec ?_
        ((conv => whnf); repeat' (refine vcC_go tok {} rfl ?_; conv => whnf))
        repeat' ((first | (intro hlq; (try simp only [List.length_map, maxLen] at hlq)) | refine ⟨fun h1 h2 => ⟨by have := h1.1; have := h1.2; have := h2.1; have := h2.2; (try dsimp only at *); first | omega | (simp only [List.length_map] at *; omega), by have := h1.1; have := h1.2; have := h2.1; have := h2.2; (try dsimp only at *); first | omega | (simp only [List.length_map] at *; omega)⟩, ?_⟩ | refine ⟨⟨(by (try dsimp only at *); omega : _ ≤ _), (by (try dsimp only at *); omega : _ < _)⟩, ?_⟩ | refine ⟨_, ⟨by (try dsimp only at *); omega, getD_at _ (by (try dsimp only at *); (try simp only [List.length_map] at *); omega) (rfl), rfl⟩, ?_⟩ | refine ⟨_, ⟨by (try dsimp only at *); omega, getD_at _ (by (try dsimp only at *); (try simp only [List.length_map] at *); omega) (Cond.cells_eq _), rfl⟩, ?_⟩ | refine ⟨_, ⟨by (try dsimp only at *); omega, str_at (by (try dsimp only at *); (try simp only [List.length_map] at *); omega)⟩, ?_⟩ | refine ⟨(rfl : look _ _ = look _ _), ?_⟩ | fail) <;> ((conv => whnf); repeat' (refine vcC_go tok {} rfl ?_; conv => whnf)))
        rw [if_pos h3] at hap
        refine ⟨⟨(i + 1, (Step.appL x l[i].th ws).map icells), ?_, ⟨by dsimp only; omega, _, rfl, ?_, ?_⟩, by dsimp only; omega⟩⟩
        · repeat' (first | exact True.intro | exact rfl | refine And.intro ?_ ?_)
        · rw [← heq, hap]
        · rw [← hap]; dsimp only; omega
      · have hrec := applied_meets l[i].el x ws hk.2.2.2 (by omega)
        rw [← hxs] at hrec
        refine Meets.k hrec ?_
        ((conv => whnf); repeat' (refine vcC_go tok {} rfl ?_; conv => whnf))
        repeat' ((first | (intro hlq; (try simp only [List.length_map, maxLen] at hlq)) | refine ⟨fun h1 h2 => ⟨by have := h1.1; have := h1.2; have := h2.1; have := h2.2; (try dsimp only at *); first | omega | (simp only [List.length_map] at *; omega), by have := h1.1; have := h1.2; have := h2.1; have := h2.2; (try dsimp only at *); first | omega | (simp only [List.length_map] at *; omega)⟩, ?_⟩ | refine ⟨⟨(by (try dsimp only at *); omega : _ ≤ _), (by (try dsimp only at *); omega : _ < _)⟩, ?_⟩ | refine ⟨_, ⟨by (try dsimp only at *); omega, getD_at _ (by (try dsimp only at *); (try simp only [List.length_map] at *); omega) (rfl), rfl⟩, ?_⟩ | refine ⟨_, ⟨by (try dsimp only at *); omega, getD_at _ (by (try dsimp only at *); (try simp only [List.length_map] at *); omega) (Cond.cells_eq _), rfl⟩, ?_⟩ | refine ⟨_, ⟨by (try dsimp only at *); omega, str_at (by (try dsimp only at *); (try simp only [List.length_map] at *); omega)⟩, ?_⟩ | refine ⟨(rfl : look _ _ = look _ _), ?_⟩ | fail) <;> ((conv => whnf); repeat' (refine vcC_go tok {} rfl ?_; conv => whnf)))
        rw [if_neg (by rw [h3]; simp)] at hap
        refine ⟨⟨(i + 1, (Step.appL x l[i].el ws).map icells), ?_, ⟨by dsimp only; omega, _, rfl, ?_, ?_⟩, by dsimp only; omega⟩⟩
        · repeat' (first | exact True.intro | exact rfl | refine And.intro ?_ ?_)
        · rw [← heq, hap]
        · rw [← hap]; dsimp only; omega
  · refine ⟨?_⟩
    rw [List.drop_eq_nil_of_le (by omega), Step.appL] at heq
    rw [← heq, ← hxs]
termination_by Step.szL l
decreasing_by
  all_goals
    have h2 := szS_mem (List.getElem_mem h1')
    have h3 := l[i].sz_eq
    omega
end Go.Proofs.YtiejhmfeppflaaaGreat.Dx

/- Direct, in the reference and in the code. -/
namespace Go.Proofs.YtiejhmfeppflaaaGreat.Dx
open Go Go.RowKit
set_option linter.all false
set_option maxRecDepth 100000
set_option maxHeartbeats 8000000

def tiesE (l : List Step) : Int := if fitsF (formsS l) 0 0 0 then (if l ≠ [] ∧ l.all Step.valid then 0 else 71) else 2
theorem tTies (l : List Step) (hl : l.length ≤ 1048576) (hok : ∀ s ∈ l, s.ok) : Meets Tryz.prog 18 [.sl (l.map Step.cells)] fun d => d = iD (tiesE l) := Ties_meets l hl hok
theorem rTies (l : List Step) : Meets Tryz.prog 19 [.sl (l.map Step.cells)] fun d => d = iD (tiesE l) := rTies_meets l
theorem ties_ok {l : List Step} (h : tiesE l = 0) : (∀ s ∈ l, s.valid = true) ∧ Step.nstL l ≤ 64 := by
  unfold tiesE at h
  split at h
  · rename_i hf
    split at h
    · rename_i hv
      refine ⟨List.all_eq_true.1 hv.2, ?_⟩
      obtain ⟨k1, _⟩ := F_S l
      simp only [fitsF, Bool.or_eq_true, Bool.and_eq_true, decide_eq_true_eq, k1] at hf
      rcases hf with hf | hf
      · exact absurd (by simpa [formsS] using hf) hv.1
      · omega
    · cases h
  · cases h

def directE (l : List Step) (x : Env) : List Int × Int := if tiesE l = 0 then (if x.good then (Step.appL x l [], 0) else ([], 1)) else ([], tiesE l)

theorem Applied_meets (l : List Step) (x : Env) (hv : ∀ s ∈ l, s.valid = true) (hb : Step.nstL l ≤ 64) : Meets Tryz.prog 57 [.sl (l.map Step.cells), x.d] fun d => d = .sl ((Step.appL x l []).map icells) := by
  refine enter tok {} Tryz.func57 rfl (by kernel_rfl) Tryz.ntmps57 (by simp) fun B0 W0 V0 lent g0 => ?_
  ((conv => whnf); repeat' (refine vcC_go tok {} rfl ?_; conv => whnf))
  refine Meets.k (applied_meets l x [] hv (by simp; omega)) ?_
  ((conv => whnf); repeat' (refine vcC_go tok {} rfl ?_; conv => whnf))
  exact ⟨rfl⟩

theorem rDirect_meets (l : List Step) (x : Env) : Meets Tryz.prog 27 [.sl (l.map Step.cells), x.d] fun d => d = .tup [.sl ((directE l x).1.map icells), iD (directE l x).2] := by
  refine enter tok {} Tryz.func27 rfl (by kernel_rfl) Tryz.ntmps27 (by simp) fun B0 W0 V0 lent g0 => ?_
  ((conv => whnf); repeat' (refine vcC_go tok {} rfl ?_; conv => whnf))
  refine Meets.k (rTies l) ?_
  ((conv => whnf); repeat' (refine vcC_go tok {} rfl ?_; conv => whnf))
  refine ⟨fun h1 => ?_, fun h1 => ?_⟩ <;> (try simp only [BB, List.length_map] at h1) <;> ((conv => whnf); repeat' (refine vcC_go tok {} rfl ?_; conv => whnf))
  · refine ⟨?_⟩
    rw [directE, if_neg h1]; rfl
  refine Meets.k (rEnv_meets x) ?_
  ((conv => whnf); repeat' (refine vcC_go tok {} rfl ?_; conv => whnf))
  refine ⟨fun h2 => ?_, fun h2 => ?_⟩ <;> (try simp only [BB, List.length_map] at h2) <;> ((conv => whnf); repeat' (refine vcC_go tok {} rfl ?_; conv => whnf))
  · refine ⟨?_⟩
    have hg : x.good = false := by cases hg : x.good <;> simp_all
    rw [directE, if_pos (by omega), hg]
    rfl
  have ht := ties_ok (l := l) (by omega)
  refine Meets.k (Applied_meets l x ht.1 ht.2) ?_
  ((conv => whnf); repeat' (refine vcC_go tok {} rfl ?_; conv => whnf))
  refine ⟨?_⟩
  have hg : x.good = true := by cases hg : x.good <;> simp_all
  rw [directE, if_pos (by omega), if_pos hg]

abbrev dirO (x : Env) (acc : List (List D)) : List (Nat × Blk) :=
  [(2001, .box [iB x.distance, iB x.field, iB x.short] 42), (2002, .box [.fn 54 [] [.loc 2001 0, .loc 2002 0, .loc 2003 0]] 105), (2003, .box [.own 2004] 50), (2004, .sl ⟨3, 1, acc, true⟩)]

theorem apply_meets (l : List Step) (x : Env) (acc : List Int) (hv : ∀ s ∈ l, s.valid = true) (hb : acc.length + Step.nstL l ≤ 1048576) :
    MeetsR Tryz.prog 54 [.d (.sl (l.map Step.cells)), .loc 2001 0, .loc 2002 0, .loc 2003 0] (dirO x (acc.map icells)) fun o O' => o = .ret (.d (.tup [])) ∧ O' = dirO x ((Step.appL x l acc).map icells) := by
  refine enterR tok {rs := [26, 34]} Tryz.func54 rfl (by kernel_rfl) Tryz.ntmps54 (by simp) fun B0 W0 V0 lent g0 => ?_
  ((conv => whnf); repeat' (refine vcC_go tok {rs := [26, 34]} rfl ?_; conv => whnf))
  repeat' ((first | (intro hlq; (try simp only [List.length_map, maxLen] at hlq)) | refine ⟨fun h1 h2 => ⟨by have := h1.1; have := h1.2; have := h2.1; have := h2.2; (try dsimp only at *); first | omega | (simp only [List.length_map] at *; omega), by have := h1.1; have := h1.2; have := h2.1; have := h2.2; (try dsimp only at *); first | omega | (simp only [List.length_map] at *; omega)⟩, ?_⟩ | refine ⟨⟨(by (try dsimp only at *); omega : _ ≤ _), (by (try dsimp only at *); omega : _ < _)⟩, ?_⟩ | refine ⟨_, ⟨by (try dsimp only at *); omega, getD_at _ (by (try dsimp only at *); (try simp only [List.length_map] at *); omega) (rfl), rfl⟩, ?_⟩ | refine ⟨_, ⟨by (try dsimp only at *); omega, getD_at _ (by (try dsimp only at *); (try simp only [List.length_map] at *); omega) (Cond.cells_eq _), rfl⟩, ?_⟩ | refine ⟨_, ⟨by (try dsimp only at *); omega, str_at (by (try dsimp only at *); (try simp only [List.length_map] at *); omega)⟩, ?_⟩ | refine ⟨(rfl : look _ _ = look _ _), ?_⟩ | fail) <;> ((conv => whnf); repeat' (refine vcC_go tok {rs := [26, 34]} rfl ?_; conv => whnf)))
  refine loop_upd tok {rs := [26, 34]} [] (X := Nat × List (List D)) (fun s => [(9, iB s.1)]) (fun s => dirO x s.2) [6] (fun s => s.1 ≤ l.length ∧ ∃ ws, s.2 = ws.map icells ∧ Step.appL x (l.drop s.1) ws = Step.appL x l acc ∧ ws.length + Step.nstL (l.drop s.1) ≤ 1048576) (fun s => l.length - s.1) (0, acc.map icells) ?_
  ((conv => whnf); repeat' (refine vcC_go tok {rs := [26, 34]} rfl ?_; conv => whnf))
  refine And.intro ?_ ⟨⟨by omega, acc, rfl, by simp, by simpa using hb⟩, fun s hΦ => ?_⟩
  · repeat' (first | exact True.intro | exact rfl | refine And.intro ?_ ?_)
  obtain ⟨i, xs⟩ := s
  obtain ⟨hi, ws, hxs, heq, hlb⟩ := hΦ
  dsimp only at hi hxs heq hlb
  ((conv => whnf); repeat' (refine vcC_go tok {rs := [26, 34]} rfl ?_; conv => whnf))
  refine ⟨fun h1 => ?_, fun h1 => ?_⟩ <;> (try simp only [BB, List.length_map] at h1) <;> ((conv => whnf); repeat' (refine vcC_go tok {rs := [26, 34]} rfl ?_; conv => whnf))
  · have h1' : i < l.length := by omega
    have hvi := valid_kind (hv _ (List.getElem_mem h1'))
    have hap := app_eq x l[i] ws
    have hln := app_len x l[i] ws
    have hn1 := l[i].nst_eq
    have hxl : xs.length = ws.length := by rw [hxs, List.length_map]
    rw [nstL_drop h1'] at hlb
    rw [List.drop_eq_getElem_cons h1', Step.appL] at heq
    repeat' ((first | (intro hlq; (try simp only [List.length_map, maxLen] at hlq)) | refine ⟨fun h1 h2 => ⟨by have := h1.1; have := h1.2; have := h2.1; have := h2.2; (try dsimp only at *); first | omega | (simp only [List.length_map] at *; omega), by have := h1.1; have := h1.2; have := h2.1; have := h2.2; (try dsimp only at *); first | omega | (simp only [List.length_map] at *; omega)⟩, ?_⟩ | refine ⟨⟨(by (try dsimp only at *); omega : _ ≤ _), (by (try dsimp only at *); omega : _ < _)⟩, ?_⟩ | refine ⟨_, ⟨by (try dsimp only at *); omega, getD_at _ (by (try dsimp only at *); (try simp only [List.length_map] at *); omega) (rfl), rfl⟩, ?_⟩ | refine ⟨_, ⟨by (try dsimp only at *); omega, getD_at _ (by (try dsimp only at *); (try simp only [List.length_map] at *); omega) (Step.cells_eq _), rfl⟩, ?_⟩ | refine ⟨_, ⟨by (try dsimp only at *); omega, str_at (by (try dsimp only at *); (try simp only [List.length_map] at *); omega)⟩, ?_⟩ | refine ⟨(rfl : look _ _ = look _ _), ?_⟩ | fail) <;> ((conv => whnf); repeat' (refine vcC_go tok {rs := [26, 34]} rfl ?_; conv => whnf)))
    refine ⟨fun h2 => ?_, fun h2 => ?_⟩ <;> (try simp only [BB, List.length_map] at h2) <;> ((conv => whnf); repeat' (refine vcC_go tok {rs := [26, 34]} rfl ?_; conv => whnf))
    · have hk : l[i].kind = 2 ∧ l[i].cond.valid = true ∧ (∀ z ∈ l[i].th, z.valid = true) ∧ ∀ z ∈ l[i].el, z.valid = true := by
        rcases hvi with h | h
        · omega
        · exact h
      rw [if_pos hk.1] at hap
      refine Meets.k (holds_meets l[i].cond x hk.2.1) ?_
      ((conv => whnf); repeat' (refine vcC_go tok {rs := [26, 34]} rfl ?_; conv => whnf))
      refine ⟨fun h3 => ?_, fun h3 => ?_⟩ <;> (try simp only [BB, List.length_map] at h3) <;> ((conv => whnf); repeat' (refine vcC_go tok {rs := [26, 34]} rfl ?_; conv => whnf))
      · rw [if_pos h3] at hap
        repeat' ((first | (intro hlq; (try simp only [List.length_map, maxLen] at hlq)) | refine ⟨fun h1 h2 => ⟨by have := h1.1; have := h1.2; have := h2.1; have := h2.2; (try dsimp only at *); first | omega | (simp only [List.length_map] at *; omega), by have := h1.1; have := h1.2; have := h2.1; have := h2.2; (try dsimp only at *); first | omega | (simp only [List.length_map] at *; omega)⟩, ?_⟩ | refine ⟨⟨(by (try dsimp only at *); omega : _ ≤ _), (by (try dsimp only at *); omega : _ < _)⟩, ?_⟩ | refine ⟨_, ⟨by (try dsimp only at *); omega, getD_at _ (by (try dsimp only at *); (try simp only [List.length_map] at *); omega) (rfl), rfl⟩, ?_⟩ | refine ⟨_, ⟨by (try dsimp only at *); omega, getD_at _ (by (try dsimp only at *); (try simp only [List.length_map] at *); omega) (Step.cells_eq _), rfl⟩, ?_⟩ | refine ⟨_, ⟨by (try dsimp only at *); omega, str_at (by (try dsimp only at *); (try simp only [List.length_map] at *); omega)⟩, ?_⟩ | refine ⟨(rfl : look _ _ = look _ _), ?_⟩ | fail) <;> ((conv => whnf); repeat' (refine vcC_go tok {rs := [26, 34]} rfl ?_; conv => whnf)))
        have hrec := apply_meets l[i].th x ws hk.2.2.1 (by omega)
        rw [← hxs] at hrec
        refine ⟨dirO x xs, _, ⟨?_, ?_⟩, hrec.mono ?_⟩
        · repeat' (first | exact True.intro | exact rfl | refine And.intro ?_ ?_)
        · repeat' (first | exact True.intro | exact rfl | refine And.intro ?_ ?_)
        rintro o O' ⟨rfl, rfl⟩
        ((conv => whnf); repeat' (refine vcC_go tok {rs := [26, 34]} rfl ?_; conv => whnf))
        repeat' ((first | (intro hlq; (try simp only [List.length_map, maxLen] at hlq)) | refine ⟨fun h1 h2 => ⟨by have := h1.1; have := h1.2; have := h2.1; have := h2.2; (try dsimp only at *); first | omega | (simp only [List.length_map] at *; omega), by have := h1.1; have := h1.2; have := h2.1; have := h2.2; (try dsimp only at *); first | omega | (simp only [List.length_map] at *; omega)⟩, ?_⟩ | refine ⟨⟨(by (try dsimp only at *); omega : _ ≤ _), (by (try dsimp only at *); omega : _ < _)⟩, ?_⟩ | refine ⟨_, ⟨by (try dsimp only at *); omega, getD_at _ (by (try dsimp only at *); (try simp only [List.length_map] at *); omega) (rfl), rfl⟩, ?_⟩ | refine ⟨_, ⟨by (try dsimp only at *); omega, getD_at _ (by (try dsimp only at *); (try simp only [List.length_map] at *); omega) (Cond.cells_eq _), rfl⟩, ?_⟩ | refine ⟨_, ⟨by (try dsimp only at *); omega, str_at (by (try dsimp only at *); (try simp only [List.length_map] at *); omega)⟩, ?_⟩ | refine ⟨(rfl : look _ _ = look _ _), ?_⟩ | fail) <;> ((conv => whnf); repeat' (refine vcC_go tok {rs := [26, 34]} rfl ?_; conv => whnf)))
        refine ⟨⟨(i + 1, (Step.appL x l[i].th ws).map icells), ?_, ⟨by dsimp only; omega, _, rfl, ?_, ?_⟩, by dsimp only; omega⟩⟩
        · repeat' (first | exact True.intro | exact rfl | refine And.intro ?_ ?_)
        · rw [← heq, hap]
        · rw [← hap]; dsimp only; omega
      · rw [if_neg (by rw [h3]; simp)] at hap
        have hrec := apply_meets l[i].el x ws hk.2.2.2 (by omega)
        rw [← hxs] at hrec
        repeat' ((first | (intro hlq; (try simp only [List.length_map, maxLen] at hlq)) | ((refine ⟨fun (hb : _ = true) => ?_, fun (hb : _ = false) => ?_⟩) <;> (try simp only [BB, List.length_map] at hb)) | refine ⟨fun h1 h2 => ⟨by have := h1.1; have := h1.2; have := h2.1; have := h2.2; (try dsimp only at *); first | omega | (simp only [List.length_map] at *; omega), by have := h1.1; have := h1.2; have := h2.1; have := h2.2; (try dsimp only at *); first | omega | (simp only [List.length_map] at *; omega)⟩, ?_⟩ | refine ⟨⟨(by (try dsimp only at *); omega : _ ≤ _), (by (try dsimp only at *); omega : _ < _)⟩, ?_⟩ | refine ⟨_, ⟨by (try dsimp only at *); omega, getD_at _ (by (try dsimp only at *); (try simp only [List.length_map] at *); omega) (rfl), rfl⟩, ?_⟩ | refine ⟨_, ⟨by (try dsimp only at *); omega, getD_at _ (by (try dsimp only at *); (try simp only [List.length_map] at *); omega) (Step.cells_eq _), rfl⟩, ?_⟩ | refine ⟨_, ⟨by (try dsimp only at *); omega, str_at (by (try dsimp only at *); (try simp only [List.length_map] at *); omega)⟩, ?_⟩ | refine ⟨(rfl : look _ _ = look _ _), ?_⟩ | fail) <;> ((conv => whnf); repeat' (refine vcC_go tok {rs := [26, 34]} rfl ?_; conv => whnf)))
        all_goals try (exfalso; omega)
        refine ⟨dirO x xs, _, ⟨?_, ?_⟩, hrec.mono ?_⟩
        · repeat' (first | exact True.intro | exact rfl | refine And.intro ?_ ?_)
        · repeat' (first | exact True.intro | exact rfl | refine And.intro ?_ ?_)
        rintro o O' ⟨rfl, rfl⟩
        ((conv => whnf); repeat' (refine vcC_go tok {rs := [26, 34]} rfl ?_; conv => whnf))
        repeat' ((first | (intro hlq; (try simp only [List.length_map, maxLen] at hlq)) | refine ⟨fun h1 h2 => ⟨by have := h1.1; have := h1.2; have := h2.1; have := h2.2; (try dsimp only at *); first | omega | (simp only [List.length_map] at *; omega), by have := h1.1; have := h1.2; have := h2.1; have := h2.2; (try dsimp only at *); first | omega | (simp only [List.length_map] at *; omega)⟩, ?_⟩ | refine ⟨⟨(by (try dsimp only at *); omega : _ ≤ _), (by (try dsimp only at *); omega : _ < _)⟩, ?_⟩ | refine ⟨_, ⟨by (try dsimp only at *); omega, getD_at _ (by (try dsimp only at *); (try simp only [List.length_map] at *); omega) (rfl), rfl⟩, ?_⟩ | refine ⟨_, ⟨by (try dsimp only at *); omega, getD_at _ (by (try dsimp only at *); (try simp only [List.length_map] at *); omega) (Cond.cells_eq _), rfl⟩, ?_⟩ | refine ⟨_, ⟨by (try dsimp only at *); omega, str_at (by (try dsimp only at *); (try simp only [List.length_map] at *); omega)⟩, ?_⟩ | refine ⟨(rfl : look _ _ = look _ _), ?_⟩ | fail) <;> ((conv => whnf); repeat' (refine vcC_go tok {rs := [26, 34]} rfl ?_; conv => whnf)))
        refine ⟨⟨(i + 1, (Step.appL x l[i].el ws).map icells), ?_, ⟨by dsimp only; omega, _, rfl, ?_, ?_⟩, by dsimp only; omega⟩⟩
        · repeat' (first | exact True.intro | exact rfl | refine And.intro ?_ ?_)
        · rw [← heq, hap]
        · rw [← hap]; dsimp only; omega
    · have hk : ¬ l[i].kind = 2 := h2
      rw [if_neg hk] at hap
      have hin := Contains_meets ws l[i].crit
      rw [← hxs] at hin
      repeat' ((first | (intro hlq; (try simp only [List.length_map, maxLen] at hlq)) | ((refine ⟨fun (hb : _ = true) => ?_, fun (hb : _ = false) => ?_⟩) <;> (try simp only [BB, List.length_map] at hb)) | refine ⟨fun h1 h2 => ⟨by have := h1.1; have := h1.2; have := h2.1; have := h2.2; (try dsimp only at *); first | omega | (simp only [List.length_map] at *; omega), by have := h1.1; have := h1.2; have := h2.1; have := h2.2; (try dsimp only at *); first | omega | (simp only [List.length_map] at *; omega)⟩, ?_⟩ | refine ⟨⟨(by (try dsimp only at *); omega : _ ≤ _), (by (try dsimp only at *); omega : _ < _)⟩, ?_⟩ | refine ⟨_, ⟨by (try dsimp only at *); omega, getD_at _ (by (try dsimp only at *); (try simp only [List.length_map] at *); omega) (rfl), rfl⟩, ?_⟩ | refine ⟨_, ⟨by (try dsimp only at *); omega, getD_at _ (by (try dsimp only at *); (try simp only [List.length_map] at *); omega) (Step.cells_eq _), rfl⟩, ?_⟩ | refine ⟨_, ⟨by (try dsimp only at *); omega, str_at (by (try dsimp only at *); (try simp only [List.length_map] at *); omega)⟩, ?_⟩ | refine ⟨(rfl : look _ _ = look _ _), ?_⟩ | fail) <;> ((conv => whnf); repeat' (refine vcC_go tok {rs := [26, 34]} rfl ?_; conv => whnf)))
      all_goals try (exfalso; omega)
      refine Meets.k hin ?_
      ((conv => whnf); repeat' (refine vcC_go tok {rs := [26, 34]} rfl ?_; conv => whnf))
      refine ⟨fun h3 => ?_, fun h3 => ?_⟩ <;> (try simp only [BB, List.length_map] at h3) <;> ((conv => whnf); repeat' (refine vcC_go tok {rs := [26, 34]} rfl ?_; conv => whnf))
      · repeat' ((first | (intro hlq; (try simp only [List.length_map, maxLen] at hlq)) | refine ⟨fun h1 h2 => ⟨by have := h1.1; have := h1.2; have := h2.1; have := h2.2; (try dsimp only at *); first | omega | (simp only [List.length_map] at *; omega), by have := h1.1; have := h1.2; have := h2.1; have := h2.2; (try dsimp only at *); first | omega | (simp only [List.length_map] at *; omega)⟩, ?_⟩ | refine ⟨⟨(by (try dsimp only at *); omega : _ ≤ _), (by (try dsimp only at *); omega : _ < _)⟩, ?_⟩ | refine ⟨_, ⟨by (try dsimp only at *); omega, getD_at _ (by (try dsimp only at *); (try simp only [List.length_map] at *); omega) (rfl), rfl⟩, ?_⟩ | refine ⟨_, ⟨by (try dsimp only at *); omega, getD_at _ (by (try dsimp only at *); (try simp only [List.length_map] at *); omega) (Cond.cells_eq _), rfl⟩, ?_⟩ | refine ⟨_, ⟨by (try dsimp only at *); omega, str_at (by (try dsimp only at *); (try simp only [List.length_map] at *); omega)⟩, ?_⟩ | refine ⟨(rfl : look _ _ = look _ _), ?_⟩ | fail) <;> ((conv => whnf); repeat' (refine vcC_go tok {rs := [26, 34]} rfl ?_; conv => whnf)))
        refine ⟨by simp, ?_⟩
        ((conv => whnf); repeat' (refine vcC_go tok {rs := [26, 34]} rfl ?_; conv => whnf))
        refine ⟨fun _ _ => by simp; omega, ?_⟩
        ((conv => whnf); repeat' (refine vcC_go tok {rs := [26, 34]} rfl ?_; conv => whnf))
        repeat' ((first | (intro hlq; (try simp only [List.length_map, maxLen] at hlq)) | refine ⟨fun h1 h2 => ⟨by have := h1.1; have := h1.2; have := h2.1; have := h2.2; (try dsimp only at *); first | omega | (simp only [List.length_map] at *; omega), by have := h1.1; have := h1.2; have := h2.1; have := h2.2; (try dsimp only at *); first | omega | (simp only [List.length_map] at *; omega)⟩, ?_⟩ | refine ⟨⟨(by (try dsimp only at *); omega : _ ≤ _), (by (try dsimp only at *); omega : _ < _)⟩, ?_⟩ | refine ⟨_, ⟨by (try dsimp only at *); omega, getD_at _ (by (try dsimp only at *); (try simp only [List.length_map] at *); omega) (rfl), rfl⟩, ?_⟩ | refine ⟨_, ⟨by (try dsimp only at *); omega, getD_at _ (by (try dsimp only at *); (try simp only [List.length_map] at *); omega) (Cond.cells_eq _), rfl⟩, ?_⟩ | refine ⟨_, ⟨by (try dsimp only at *); omega, str_at (by (try dsimp only at *); (try simp only [List.length_map] at *); omega)⟩, ?_⟩ | refine ⟨(rfl : look _ _ = look _ _), ?_⟩ | fail) <;> ((conv => whnf); repeat' (refine vcC_go tok {rs := [26, 34]} rfl ?_; conv => whnf)))
        refine ⟨⟨(i + 1, xs ++ [[iD l[i].crit]]), ?_, ⟨by dsimp only; omega, ws ++ [l[i].crit], by dsimp only; rw [hxs, List.map_append]; rfl, ?_, by dsimp only; simp; omega⟩, by dsimp only; omega⟩⟩
        · repeat' (first | exact True.intro | exact rfl | refine And.intro ?_ ?_)
        rw [← heq, hap, h3]; rfl
      · repeat' ((first | (intro hlq; (try simp only [List.length_map, maxLen] at hlq)) | refine ⟨fun h1 h2 => ⟨by have := h1.1; have := h1.2; have := h2.1; have := h2.2; (try dsimp only at *); first | omega | (simp only [List.length_map] at *; omega), by have := h1.1; have := h1.2; have := h2.1; have := h2.2; (try dsimp only at *); first | omega | (simp only [List.length_map] at *; omega)⟩, ?_⟩ | refine ⟨⟨(by (try dsimp only at *); omega : _ ≤ _), (by (try dsimp only at *); omega : _ < _)⟩, ?_⟩ | refine ⟨_, ⟨by (try dsimp only at *); omega, getD_at _ (by (try dsimp only at *); (try simp only [List.length_map] at *); omega) (rfl), rfl⟩, ?_⟩ | refine ⟨_, ⟨by (try dsimp only at *); omega, getD_at _ (by (try dsimp only at *); (try simp only [List.length_map] at *); omega) (Cond.cells_eq _), rfl⟩, ?_⟩ | refine ⟨_, ⟨by (try dsimp only at *); omega, str_at (by (try dsimp only at *); (try simp only [List.length_map] at *); omega)⟩, ?_⟩ | refine ⟨(rfl : look _ _ = look _ _), ?_⟩ | fail) <;> ((conv => whnf); repeat' (refine vcC_go tok {rs := [26, 34]} rfl ?_; conv => whnf)))
        refine ⟨⟨(i + 1, xs), ?_, ⟨by dsimp only; omega, ws, hxs, ?_, by dsimp only; omega⟩, by dsimp only; omega⟩⟩
        · repeat' (first | exact True.intro | exact rfl | refine And.intro ?_ ?_)
        rw [← heq, hap, h3]; rfl
  · refine ⟨dirO x xs, .d (.tup []), ?_, ⟨rfl, ?_⟩⟩
    · repeat' (first | exact True.intro | exact rfl | refine And.intro ?_ ?_)
    rw [List.drop_eq_nil_of_le (by omega), Step.appL] at heq
    rw [← heq, ← hxs]
termination_by Step.szL l
decreasing_by
  all_goals
    have h2 := szS_mem (List.getElem_mem h1')
    have h3 := l[i].sz_eq
    omega

theorem Direct_meets (l : List Step) (x : Env) (hl : l.length ≤ 1048576) (hok : ∀ s ∈ l, s.ok) : Meets Tryz.prog 23 [.sl (l.map Step.cells), x.d] fun d => d = .tup [.sl ((directE l x).1.map icells), iD (directE l x).2] := by
  refine enter tok {nm := [(3, 2001), (8, 2002), (4, 2003)], rs := [22]} Tryz.func23 rfl (by kernel_rfl) Tryz.ntmps23 (by simp) fun B0 W0 V0 lent g0 => ?_
  ((conv => whnf); repeat' (refine vcC_go tok {nm := [(3, 2001), (8, 2002), (4, 2003)], rs := [22]} rfl ?_; conv => whnf))
  refine Meets.k (tTies l hl hok) ?_
  ((conv => whnf); repeat' (refine vcC_go tok {nm := [(3, 2001), (8, 2002), (4, 2003)], rs := [22]} rfl ?_; conv => whnf))
  refine ⟨fun h1 => ?_, fun h1 => ?_⟩ <;> (try simp only [BB, List.length_map] at h1) <;> ((conv => whnf); repeat' (refine vcC_go tok {nm := [(3, 2001), (8, 2002), (4, 2003)], rs := [22]} rfl ?_; conv => whnf))
  · refine ⟨?_⟩
    rw [directE, if_neg h1]; rfl
  refine Meets.k (Env_meets x) ?_
  ((conv => whnf); repeat' (refine vcC_go tok {nm := [(3, 2001), (8, 2002), (4, 2003)], rs := [22]} rfl ?_; conv => whnf))
  refine ⟨fun h2 => ?_, fun h2 => ?_⟩ <;> simp only [decide_eq_true_eq, decide_eq_false_iff_not] at h2
  · ((conv => whnf); repeat' (refine vcC_go tok {nm := [(3, 2001), (8, 2002), (4, 2003)], rs := [22]} rfl ?_; conv => whnf))
    refine ⟨?_⟩
    have hg : x.good = false := by cases hg : x.good <;> simp_all
    rw [directE, if_pos (by omega), hg]
    rfl
  have hg : x.good = true := by cases hg : x.good <;> simp_all
  have ht := ties_ok (l := l) (by omega)
  refine vcC_go tok {nm := [(3, 2001), (8, 2002), (4, 2003)], rs := [22]} rfl ?_
  conv => whnf
  refine vcC_go tok {nm := [(3, 2001), (8, 2002), (4, 2003)], rs := [22]} rfl ?_
  conv => whnf
  refine vcC_go tok {nm := [(3, 2001), (8, 2002), (4, 2003)], rs := [22]} rfl ?_
  conv => whnf
  refine J_own [(.inr (2003, 0), 2004, 3, 1)] ?_
  conv => whnf
  refine ⟨by simp, ?_⟩
  ((conv => whnf); repeat' (refine vcC_go tok {nm := [(3, 2001), (8, 2002), (4, 2003)], rs := [22]} rfl ?_; conv => whnf))
  refine ⟨dirO x [], _, ⟨?_, ?_⟩, (apply_meets l x [] ht.1 (by simp; omega)).mono ?_⟩
  · repeat' (first | exact True.intro | exact rfl | refine And.intro ?_ ?_)
  · repeat' (first | exact True.intro | exact rfl | refine And.intro ?_ ?_)
  rintro o O' ⟨rfl, rfl⟩
  ((conv => whnf); repeat' (refine vcC_go tok {nm := [(3, 2001), (8, 2002), (4, 2003)], rs := [22]} rfl ?_; conv => whnf))
  refine ⟨?_⟩
  rw [directE, if_pos (by omega), if_pos hg]
end Go.Proofs.YtiejhmfeppflaaaGreat.Dx

/- The helpers of the laws of chapter 07. -/
namespace Go.Proofs.YtiejhmfeppflaaaGreat.Dx
open Go Go.RowKit
set_option linter.all false
set_option maxRecDepth 100000
set_option maxHeartbeats 8000000

theorem not_meets (c : Cond) : Meets Tryz.prog 30 [c.d] fun d => d = (⟨4, 0, 0, [c]⟩ : Cond).d := by
  refine enter tok {} Tryz.func30 rfl (by kernel_rfl) Tryz.ntmps30 (by simp) fun B0 W0 V0 lent g0 => ?_
  ((conv => whnf); repeat' (refine vcC_go tok {} rfl ?_; conv => whnf))
  refine ⟨?_⟩
  show D.agg _ = D.agg _
  simp only [Cond.dc, List.map_cons, List.map_nil, Cond.cells_eq]

theorem join_meets (k : Int) (l : List Cond) : Meets Tryz.prog 31 [iD k, .sl (l.map Cond.cells)] fun d => d = (⟨k, 0, 0, l⟩ : Cond).d := by
  refine enter tok {} Tryz.func31 rfl (by kernel_rfl) Tryz.ntmps31 (by simp) fun B0 W0 V0 lent g0 => ?_
  ((conv => whnf); repeat' (refine vcC_go tok {} rfl ?_; conv => whnf))
  exact ⟨rfl⟩

theorem lholds_meets (c : Cond) (x : Env) (hok : c.ok) : Meets Tryz.prog 32 [c.d, x.d] fun d => d = bD (decide ((holdsE c x).2 = 0) && (holdsE c x).1) := by
  refine enter tok {} Tryz.func32 rfl (by kernel_rfl) Tryz.ntmps32 (by simp) fun B0 W0 V0 lent g0 => ?_
  ((conv => whnf); repeat' (refine vcC_go tok {} rfl ?_; conv => whnf))
  refine Meets.k (Holds_meets c x hok) ?_
  ((conv => whnf); repeat' (refine vcC_go tok {} rfl ?_; conv => whnf))
  repeat' ((first | (intro hlq; (try simp only [List.length_map, maxLen] at hlq)) | ((refine ⟨fun (hb : _ = true) => ?_, fun (hb : _ = false) => ?_⟩) <;> (try simp only [BB, List.length_map] at hb)) | refine ⟨fun h1 h2 => ⟨by have := h1.1; have := h1.2; have := h2.1; have := h2.2; (try dsimp only at *); first | omega | (simp only [List.length_map] at *; omega), by have := h1.1; have := h1.2; have := h2.1; have := h2.2; (try dsimp only at *); first | omega | (simp only [List.length_map] at *; omega)⟩, ?_⟩ | refine ⟨⟨(by (try dsimp only at *); omega : _ ≤ _), (by (try dsimp only at *); omega : _ < _)⟩, ?_⟩ | refine ⟨_, ⟨by (try dsimp only at *); omega, getD_at _ (by (try dsimp only at *); (try simp only [List.length_map] at *); omega) (rfl), rfl⟩, ?_⟩ | refine ⟨_, ⟨by (try dsimp only at *); omega, getD_at _ (by (try dsimp only at *); (try simp only [List.length_map] at *); omega) (Cond.cells_eq _), rfl⟩, ?_⟩ | refine ⟨_, ⟨by (try dsimp only at *); omega, str_at (by (try dsimp only at *); (try simp only [List.length_map] at *); omega)⟩, ?_⟩ | refine ⟨(rfl : look _ _ = look _ _), ?_⟩ | fail) <;> ((conv => whnf); repeat' (refine vcC_go tok {} rfl ?_; conv => whnf)))
  all_goals refine ⟨congrArg bD ?_⟩
  all_goals simp_all

theorem by_meets (n : Int) : Meets Tryz.prog 33 [iD n] fun d => d = (⟨1, n, ⟨0, 0, 0, []⟩, [], []⟩ : Step).d := by
  refine enter tok {} Tryz.func33 rfl (by kernel_rfl) Tryz.ntmps33 (by simp) fun B0 W0 V0 lent g0 => ?_
  ((conv => whnf); repeat' (refine vcC_go tok {} rfl ?_; conv => whnf))
  exact ⟨rfl⟩

theorem atLeast_meets (v n : Int) : Meets Tryz.prog 34 [iD v, iD n] fun d => d = (⟨1, v, n, []⟩ : Cond).d := by
  refine enter tok {} Tryz.func34 rfl (by kernel_rfl) Tryz.ntmps34 (by simp) fun B0 W0 V0 lent g0 => ?_
  ((conv => whnf); repeat' (refine vcC_go tok {} rfl ?_; conv => whnf))
  exact ⟨rfl⟩

theorem mask_range (n : Int) : 0 ≤ IntKind.i64.wrap ↑(BitVec.ofInt IntKind.i64.bits n &&& BitVec.ofInt IntKind.i64.bits 1073741823).toNat ∧ IntKind.i64.wrap ↑(BitVec.ofInt IntKind.i64.bits n &&& BitVec.ofInt IntKind.i64.bits 1073741823).toNat ≤ 1073741823 := by
  have h : (BitVec.ofInt IntKind.i64.bits n &&& BitVec.ofInt IntKind.i64.bits 1073741823).toNat ≤ 1073741823 := by
    rw [BitVec.toNat_and]
    exact Nat.le_trans Nat.and_le_right (by decide)
  generalize (BitVec.ofInt IntKind.i64.bits n &&& BitVec.ofInt IntKind.i64.bits 1073741823).toNat = a at h
  have : IntKind.i64.wrap (a : Int) = a := by
    simp only [IntKind.wrap, show IntKind.i64.bits = 64 from rfl, show IntKind.i64.signed = true from rfl]
    have e : (a : Int) % 2 ^ 64 = a := by omega
    rw [e, if_neg]
    simp only [Bool.true_and, decide_eq_true_eq]
    omega
  omega

theorem env_meets (n : Int) : Meets Tryz.prog 22 [iD n] fun d => ∃ x : Env, d = x.d ∧ x.good = true := by
  refine enter tok {} Tryz.func22 rfl (by kernel_rfl) Tryz.ntmps22 (by simp) fun B0 W0 V0 lent g0 => ?_
  ((conv => whnf); repeat' (refine vcC_go tok {} rfl ?_; conv => whnf))
  have hr := mask_range n
  generalize IntKind.i64.wrap ↑(BitVec.ofInt IntKind.i64.bits n &&& BitVec.ofInt IntKind.i64.bits 1073741823).toNat = m at hr ⊢
  repeat' (first | (refine ⟨fun (_ : inKind _ _) _ => ⟨by omega, by omega⟩, ?_⟩; ((conv => whnf); repeat' (refine vcC_go tok {} rfl ?_; conv => whnf))) | fail)
  refine ⟨⟨_, _, _⟩, rfl, ?_⟩
  simp only [Env.good, inR, Bool.and_eq_true, decide_eq_true_eq]
  omega
end Go.Proofs.YtiejhmfeppflaaaGreat.Dx
