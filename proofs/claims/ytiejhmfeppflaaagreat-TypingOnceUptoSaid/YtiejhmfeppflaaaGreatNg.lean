/- What valid steps apply: no criterion twice, each of 1..5, one list after another. -/
import Derived.Test.YtiejhmfeppflaaaGreatMr
import Derived.Test.YtiejhmfeppflaaaGreatNc
namespace Go.Proofs.YtiejhmfeppflaaaGreat.Dx
open Go Go.RowKit
set_option linter.all false
set_option maxRecDepth 100000

theorem hasI_iff {l : List Int} {n : Int} : hasI l n = true ↔ n ∈ l := by
  simp [hasI, List.any_eq_true]
theorem hasI_not {l : List Int} {n : Int} : hasI l n = false ↔ n ∉ l := by
  rw [← hasI_iff]; simp

/-- what a function that adds criteria does to what has been applied by others before -/
def AddsTo (f : List Int → List Int) : Prop := ∀ acc t t' : List Int, t = t'.filter (fun y => !hasI acc y) → f (acc ++ t) = acc ++ (f t').filter (fun y => !hasI acc y)
mutual
theorem app_adds (x : Env) : ∀ s : Step, AddsTo (Step.app x s)
  | ⟨k, b, c, t, e⟩ => by
    have h1 := appL_adds x t
    have h2 := appL_adds x e
    intro acc u u' hu
    simp only [Step.app]
    split
    · split
      · exact h1 acc u u' hu
      · exact h2 acc u u' hu
    · have hb : hasI (acc ++ u) b = (hasI acc b || hasI u' b) := by
        rw [Bool.eq_iff_iff, Bool.or_eq_true, hasI_iff, hasI_iff, hasI_iff, hu, List.mem_append, List.mem_filter]
        cases hx : hasI acc b
        · have := hasI_not.1 hx; simp [this]
        · have := hasI_iff.1 hx; simp [this]
      rw [hb]
      cases hx : hasI acc b <;> cases hy : hasI u' b <;> simp [hu, hx, List.filter_append]
theorem appL_adds (x : Env) : ∀ l : List Step, AddsTo (Step.appL x l)
  | [] => by
    intro acc u u' hu
    simp only [Step.appL]
    rw [hu]
  | s :: ss => by
    have h1 := app_adds x s
    have h2 := appL_adds x ss
    intro acc u u' hu
    simp only [Step.appL]
    rw [h1 acc u u' hu]
    exact h2 acc _ _ rfl
end
theorem appL_append (x : Env) : ∀ (l m : List Step) (acc : List Int), Step.appL x (l ++ m) acc = Step.appL x m (Step.appL x l acc)
  | [], m, acc => rfl
  | s :: l, m, acc => by rw [List.cons_append, Step.appL, Step.appL, appL_append x l m]
theorem appL_after (x : Env) (m : List Step) (acc : List Int) : Step.appL x m acc = acc ++ (Step.appL x m []).filter (fun y => !hasI acc y) := by
  have := appL_adds x m acc [] [] rfl
  simpa using this

/-- no criterion twice, each of 1..5 -/
def Crits (l : List Int) : Prop := l.Nodup ∧ ∀ y ∈ l, 1 ≤ y ∧ y ≤ 5
mutual
theorem app_crits (x : Env) : ∀ s : Step, s.valid = true → ∀ acc, Crits acc → Crits (Step.app x s acc)
  | ⟨k, b, c, t, e⟩, hv, acc, h => by
    have h1 := appL_crits x t
    have h2 := appL_crits x e
    rw [Step.valid_eq] at hv
    simp only [Step.app]
    split
    · rename_i hk
      rw [if_neg (by simp only; omega), if_pos hk] at hv
      simp only [Bool.and_eq_true, List.all_eq_true] at hv
      split
      · exact h1 hv.2.2.2.1 acc h
      · exact h2 hv.2.2.2.2 acc h
    · rename_i hk
      rw [if_neg (show ¬ k = 2 from hk)] at hv
      split at hv
      · simp only [inR, Bool.and_eq_true, decide_eq_true_eq] at hv
        split
        · exact h
        · rename_i hb
          rw [Bool.not_eq_true, hasI_not] at hb
          refine ⟨?_, ?_⟩
          · rw [List.nodup_append]
            refine ⟨h.1, by simp, fun a ha c hc => ?_⟩
            simp only [List.mem_singleton] at hc
            subst hc
            intro e
            subst e
            exact hb ha
          · intro y hy
            rcases List.mem_append.1 hy with hy | hy
            · exact h.2 y hy
            · simp only [List.mem_singleton] at hy
              subst hy
              omega
      · cases hv
theorem appL_crits (x : Env) : ∀ l : List Step, (∀ s ∈ l, s.valid = true) → ∀ acc, Crits acc → Crits (Step.appL x l acc)
  | [], _, acc, h => h
  | s :: ss, hv, acc, h => by
    rw [Step.appL]
    exact appL_crits x ss (fun s hs => hv s (by simp [hs])) _ (app_crits x s (hv s (by simp)) acc h)
end

theorem ties_ne {l : List Step} (h : tiesE l = 0) : l ≠ [] ∧ l.all Step.valid = true := by
  unfold tiesE at h
  split at h
  · split at h
    · assumption
    · cases h
  · cases h
theorem ties_two {l m : List Step} (h1 : tiesE l = 0) (h2 : tiesE m = 0) : tiesE (l ++ m) = 0 ∨ tiesE (l ++ m) = 2 := by
  obtain ⟨a1, a2⟩ := ties_ne h1
  obtain ⟨b1, b2⟩ := ties_ne h2
  unfold tiesE
  split
  · rw [if_pos ⟨by simp [a1], by simp [List.all_append, a2, b2]⟩]
    exact .inl rfl
  · exact .inr rfl
theorem ties3 (l m : List Step) : tiesE l ≠ 0 ∨ tiesE m ≠ 0 ∨ tiesE (l ++ m) = 0 ∨ tiesE (l ++ m) = 2 := by
  by_cases q1 : tiesE l = 0
  · by_cases q2 : tiesE m = 0
    · exact .inr (.inr (ties_two q1 q2))
    · exact .inr (.inl q2)
  · exact .inl q1
theorem direct_e {l : List Step} {x : Env} (hx : x.good = true) : (directE l x).2 = tiesE l := by
  unfold directE
  split
  · rename_i ht
    exact ht.symm
  · rfl
theorem direct_l {l : List Step} {x : Env} (hx : x.good = true) (h : tiesE l = 0) : (directE l x).1 = Step.appL x l [] := by
  unfold directE
  rw [if_pos h, if_pos hx]
theorem direct_crits {l : List Step} {x : Env} (hx : x.good = true) (h : tiesE l = 0) : Crits (directE l x).1 := by
  rw [direct_l hx h]
  exact appL_crits x l (ties_ok h).1 [] ⟨by simp, by simp⟩
theorem direct_two {l m : List Step} {x : Env} (hx : x.good = true) (h1 : tiesE l = 0) (h2 : tiesE m = 0) (h3 : tiesE (l ++ m) = 0) :
    (directE (l ++ m) x).1 = (directE l x).1 ++ (directE m x).1.filter (fun y => !hasI (directE l x).1 y) := by
  rw [direct_l hx h1, direct_l hx h2, direct_l hx h3, appL_append, appL_after]
theorem filter_take {p : Int → Bool} {l : List Int} {i : Nat} (h : i < l.length) : (l.take (i + 1)).filter p = (l.take i).filter p ++ (if p l[i] then [l[i]] else []) := by
  rw [List.take_succ_eq_append_getElem h, List.filter_append]
  congr 1
  simp only [List.filter_cons, List.filter_nil]
theorem nodup_before {l : List Int} (h : l.Nodup) {i : Nat} (hi : i < l.length) : hasI (l.take i) l[i] = false := by
  rw [hasI_not]
  intro hm
  obtain ⟨j, hj, e⟩ := List.getElem_of_mem hm
  rw [List.getElem_take] at e
  simp only [List.length_take] at hj
  exact List.pairwise_iff_getElem.1 h j i (by omega) hi (by omega) e
end Go.Proofs.YtiejhmfeppflaaaGreat.Dx

/- The walk of the law that no criterion is applied twice. -/
namespace Go.Proofs.YtiejhmfeppflaaaGreat.Dx
open Go Go.RowKit
set_option linter.all false
set_option maxRecDepth 100000
set_option maxHeartbeats 16000000

theorem TypingOnce_meets (l m : List Step) (n : Int) (hl : l.length ≤ 1048576) (hok : ∀ s ∈ l, s.ok) (hm : m.length ≤ 1048576) (hokm : ∀ s ∈ m, s.ok) (hs : l.length + m.length ≤ 1048576) : Meets Tryz.prog 5 [.sl (l.map Step.cells), .sl (m.map Step.cells), iD n] fun r => r = bD true := by
  refine enter tok {} Tryz.func5 rfl (by kernel_rfl) Tryz.ntmps5 (by simp) fun B0 W0 V0 lent g0 => ?_
  ((conv => whnf); repeat' (refine vcC_go tok {} rfl ?_; conv => whnf))
  repeat' ((first | (intro hlq; (try simp only [List.length_map, maxLen] at hlq)) | refine Meets.k (sane_meets.bl) ?_ | (refine Meets.mono (Few_meets l) ?_; rintro _ ⟨_, rfl⟩) | (refine Meets.mono (Few_meets m) ?_; rintro _ ⟨_, rfl⟩) | ((refine ⟨fun (hb : _ = true) => ?_, fun (hb : _ = false) => ?_⟩) <;> (try simp only [BB, List.length_map] at hb)) | refine ⟨fun h1 h2 => ⟨by have := h1.1; have := h1.2; have := h2.1; have := h2.2; (try dsimp only at *); first | omega | (simp only [List.length_map] at *; omega), by have := h1.1; have := h1.2; have := h2.1; have := h2.2; (try dsimp only at *); first | omega | (simp only [List.length_map] at *; omega)⟩, ?_⟩ | refine ⟨⟨(by (try dsimp only at *); omega : _ ≤ _), (by (try dsimp only at *); omega : _ < _)⟩, ?_⟩ | refine ⟨_, ⟨by (try dsimp only at *); omega, getD_at _ (by (try dsimp only at *); (try simp only [List.length_map] at *); omega) (rfl), rfl⟩, ?_⟩ | refine ⟨_, ⟨by (try dsimp only at *); omega, getD_at _ (by (try dsimp only at *); (try simp only [List.length_map] at *); omega) (Cond.cells_eq _), rfl⟩, ?_⟩ | refine ⟨_, ⟨by (try dsimp only at *); omega, str_at (by (try dsimp only at *); (try simp only [List.length_map] at *); omega)⟩, ?_⟩ | refine ⟨(rfl : look _ _ = look _ _), ?_⟩ | fail) <;> ((conv => whnf); repeat' (refine vcC_go tok {} rfl ?_; conv => whnf)))
  all_goals first
    | exact ⟨rfl⟩
    | (exfalso; revert hb; decide)
    | skip
  refine (env_meets n).mono fun d hd => ?_
  obtain ⟨x, rfl, hx⟩ := hd
  ((conv => whnf); repeat' (refine vcC_go tok {} rfl ?_; conv => whnf))
  repeat' ((first | (intro hlq; (try simp only [List.length_map, maxLen] at hlq)) | refine Meets.k (Direct_meets l x hl hok) ?_ | refine Meets.k (Direct_meets m x hm hokm) ?_ | ((refine ⟨fun (hb : _ = true) => ?_, fun (hb : _ = false) => ?_⟩) <;> (try simp only [BB, List.length_map] at hb)) | refine ⟨fun h1 h2 => ⟨by have := h1.1; have := h1.2; have := h2.1; have := h2.2; (try dsimp only at *); first | omega | (simp only [List.length_map] at *; omega), by have := h1.1; have := h1.2; have := h2.1; have := h2.2; (try dsimp only at *); first | omega | (simp only [List.length_map] at *; omega)⟩, ?_⟩ | refine ⟨⟨(by (try dsimp only at *); omega : _ ≤ _), (by (try dsimp only at *); omega : _ < _)⟩, ?_⟩ | refine ⟨_, ⟨by (try dsimp only at *); omega, getD_at _ (by (try dsimp only at *); (try simp only [List.length_map] at *); omega) (rfl), rfl⟩, ?_⟩ | refine ⟨_, ⟨by (try dsimp only at *); omega, getD_at _ (by (try dsimp only at *); (try simp only [List.length_map] at *); omega) (Cond.cells_eq _), rfl⟩, ?_⟩ | refine ⟨_, ⟨by (try dsimp only at *); omega, str_at (by (try dsimp only at *); (try simp only [List.length_map] at *); omega)⟩, ?_⟩ | refine ⟨(rfl : look _ _ = look _ _), ?_⟩ | fail) <;> ((conv => whnf); repeat' (refine vcC_go tok {} rfl ?_; conv => whnf)))
  refine draw_rule tok (cf := {}) (by kernel_rfl) [.p 0, .p 1, .p 3, .p 5, .s 2 [0,1], .s 4 [3], .s 6 [5], .p 7, .p 8, .p 9, .p 10, .p 11] (by kernel_rfl) ?_
  ((conv => whnf); repeat' (refine vcC_go tok {} rfl ?_; conv => whnf))
  have hcell : ∀ (l : List Step), ∀ ds ∈ l.map Step.cells, ds.length = 8 := fun l ds hds => by obtain ⟨s, _, rfl⟩ := List.mem_map.1 hds; rw [Step.cells_eq]; rfl
  refine ⟨hcell l, ?_⟩
  ((conv => whnf); repeat' (refine vcC_go tok {} rfl ?_; conv => whnf))
  refine ⟨⟨fun _ _ => (by simp only [List.length_nil, List.length_map]; constructor <;> omega), fun ds hds => (by cases hds)⟩, ?_⟩
  ((conv => whnf); repeat' (refine vcC_go tok {} rfl ?_; conv => whnf))
  have hD := Direct_meets (l ++ m) x (by rw [List.length_append]; omega) (fun s hs => (List.mem_append.1 hs).elim (hok s) (hokm s))
  rw [List.map_append] at hD
  repeat' ((first | (intro hlq; (try simp only [List.length_map, maxLen] at hlq)) | refine Meets.k (hD) ?_ | ((refine ⟨fun (hb : _ = true) => ?_, fun (hb : _ = false) => ?_⟩) <;> (try simp only [BB, List.length_map] at hb)) | refine ⟨fun h1 h2 => ⟨by have := h1.1; have := h1.2; have := h2.1; have := h2.2; (try dsimp only at *); first | omega | (simp only [List.length_map] at *; omega), by have := h1.1; have := h1.2; have := h2.1; have := h2.2; (try dsimp only at *); first | omega | (simp only [List.length_map] at *; omega)⟩, ?_⟩ | refine ⟨⟨(by (try dsimp only at *); omega : _ ≤ _), (by (try dsimp only at *); omega : _ < _)⟩, ?_⟩ | refine ⟨_, ⟨by (try dsimp only at *); omega, getD_at _ (by (try dsimp only at *); (try simp only [List.length_map] at *); omega) (rfl), rfl⟩, ?_⟩ | refine ⟨_, ⟨by (try dsimp only at *); omega, getD_at _ (by (try dsimp only at *); (try simp only [List.length_map] at *); omega) (Cond.cells_eq _), rfl⟩, ?_⟩ | refine ⟨_, ⟨by (try dsimp only at *); omega, str_at (by (try dsimp only at *); (try simp only [List.length_map] at *); omega)⟩, ?_⟩ | refine ⟨(rfl : look _ _ = look _ _), ?_⟩ | fail) <;> ((conv => whnf); repeat' (refine vcC_go tok {} rfl ?_; conv => whnf)))
  refine ⟨hcell m, ?_⟩
  ((conv => whnf); repeat' (refine vcC_go tok {} rfl ?_; conv => whnf))
  refine ⟨fun _ _ => (by simp only [List.nil_append, List.length_map]; constructor <;> omega), ?_⟩
  ((conv => whnf); repeat' (refine vcC_go tok {} rfl ?_; conv => whnf))
  repeat' ((first | (intro hlq; (try simp only [List.length_map, maxLen] at hlq)) | refine Meets.k (hD) ?_ | ((refine ⟨fun (hb : _ = true) => ?_, fun (hb : _ = false) => ?_⟩) <;> (try simp only [BB, List.length_map] at hb)) | refine ⟨fun h1 h2 => ⟨by have := h1.1; have := h1.2; have := h2.1; have := h2.2; (try dsimp only at *); first | omega | (simp only [List.length_map] at *; omega), by have := h1.1; have := h1.2; have := h2.1; have := h2.2; (try dsimp only at *); first | omega | (simp only [List.length_map] at *; omega)⟩, ?_⟩ | refine ⟨⟨(by (try dsimp only at *); omega : _ ≤ _), (by (try dsimp only at *); omega : _ < _)⟩, ?_⟩ | refine ⟨_, ⟨by (try dsimp only at *); omega, getD_at _ (by (try dsimp only at *); (try simp only [List.length_map] at *); omega) (rfl), rfl⟩, ?_⟩ | refine ⟨_, ⟨by (try dsimp only at *); omega, getD_at _ (by (try dsimp only at *); (try simp only [List.length_map] at *); omega) (Cond.cells_eq _), rfl⟩, ?_⟩ | refine ⟨_, ⟨by (try dsimp only at *); omega, str_at (by (try dsimp only at *); (try simp only [List.length_map] at *); omega)⟩, ?_⟩ | refine ⟨(rfl : look _ _ = look _ _), ?_⟩ | fail) <;> ((conv => whnf); repeat' (refine vcC_go tok {} rfl ?_; conv => whnf)))
  all_goals first
    | exact ⟨rfl⟩
    | (refine ⟨congrArg bD ?_⟩
       clear hD hcell
       simp only [direct_e hx] at *
       rcases ties3 l m with q | q | q | q <;> simp_all
       done)
    | skip
  have t1 : tiesE l = 0 := by rw [← direct_e hx]; exact Decidable.not_not.1 (by assumption)
  have t2 : tiesE m = 0 := by rw [← direct_e hx]; exact Decidable.not_not.1 (by assumption)
  have t3 : tiesE (l ++ m) = 0 := by rw [← direct_e hx]; exact Decidable.not_not.1 (by assumption)
  have ka : (directE l x).1.length ≤ 64 := by
    rw [direct_l hx t1]
    have := appL_len x l []
    have := (ties_ok t1).2
    simp only [List.length_nil] at *
    omega
  have kb : (directE m x).1.length ≤ 64 := by
    rw [direct_l hx t2]
    have := appL_len x m []
    have := (ties_ok t2).2
    simp only [List.length_nil] at *
    omega
  have kc := direct_crits hx t3
  have kw := direct_two hx t1 t2 t3
  clear hD hcell t1 t2 t3
  generalize (directE l x).1 = A at *
  generalize (directE m x).1 = E at *
  generalize (directE (l ++ m) x).1 = G at *
  have hone : ∀ (l : List Int), ∀ ds ∈ l.map icells, ds.length = 1 := fun l ds hds => by obtain ⟨s, _, rfl⟩ := List.mem_map.1 hds; rfl
  refine ⟨hone A, ?_⟩
  ((conv => whnf); repeat' (refine vcC_go tok {} rfl ?_; conv => whnf))
  refine ⟨⟨fun _ _ => (by simp only [List.length_nil, List.length_map]; constructor <;> omega), fun ds hds => (by cases hds)⟩, ?_⟩
  ((conv => whnf); repeat' (refine vcC_go tok {} rfl ?_; conv => whnf))
  refine loop_upd tok {} [] (X := Nat × List Int) (fun x => [(15, iB x.1), (14, .own 73), (73, .junk)]) (fun x => [(73, .sl ⟨3, 1, x.2.map icells, true⟩)]) [] (fun x => x.1 ≤ E.length ∧ x.2 = A ++ (E.take x.1).filter fun y => !hasI A y) (fun x => E.length - x.1) (0, A) ?_
  ((conv => whnf); repeat' (refine vcC_go tok {} rfl ?_; conv => whnf))
  refine And.intro ?_ ⟨⟨by dsimp only; omega, by simp⟩, fun z hΦ => ?_⟩
  · repeat' (first | exact True.intro | exact rfl | refine And.intro ?_ ?_)
  obtain ⟨i, w⟩ := z
  obtain ⟨hi, hw⟩ := hΦ
  dsimp only at hi hw
  have hwl : w.length ≤ 64 + i := by
    have := List.length_filter_le (fun y => !hasI A y) (E.take i)
    have h2 : (E.take i).length ≤ i := by simp; omega
    rw [hw, List.length_append]; omega
  ((conv => whnf); repeat' (refine vcC_go tok {} rfl ?_; conv => whnf))
  repeat' ((first | (intro hlq; (try simp only [List.length_map, maxLen] at hlq)) | refine ⟨fun h1 h2 => ⟨by have := h1.1; have := h1.2; have := h2.1; have := h2.2; (try dsimp only at *); first | omega | (simp only [List.length_map] at *; omega), by have := h1.1; have := h1.2; have := h2.1; have := h2.2; (try dsimp only at *); first | omega | (simp only [List.length_map] at *; omega)⟩, ?_⟩ | refine ⟨⟨(by (try dsimp only at *); omega : _ ≤ _), (by (try dsimp only at *); omega : _ < _)⟩, ?_⟩ | refine ⟨_, ⟨by (try dsimp only at *); omega, getD_at _ (by (try dsimp only at *); (try simp only [List.length_map] at *); omega) (rfl), rfl⟩, ?_⟩ | refine ⟨_, ⟨by (try dsimp only at *); omega, getD_at _ (by (try dsimp only at *); (try simp only [List.length_map] at *); omega) (Cond.cells_eq _), rfl⟩, ?_⟩ | refine ⟨_, ⟨by (try dsimp only at *); omega, str_at (by (try dsimp only at *); (try simp only [List.length_map] at *); omega)⟩, ?_⟩ | refine ⟨(rfl : look _ _ = look _ _), ?_⟩ | fail) <;> ((conv => whnf); repeat' (refine vcC_go tok {} rfl ?_; conv => whnf)))
  refine ⟨fun h1 => ?_, fun h1 => ?_⟩ <;> (try simp only [BB, List.length_map] at h1) <;> ((conv => whnf); repeat' (refine vcC_go tok {} rfl ?_; conv => whnf))
  · have h1' : i < E.length := by omega
    repeat' ((first | (intro hlq; (try simp only [List.length_map, maxLen] at hlq)) | refine Meets.k (In_meets A E[i]) ?_ | ((refine ⟨fun (hb : _ = true) => ?_, fun (hb : _ = false) => ?_⟩) <;> (try simp only [BB, List.length_map] at hb)) | refine ⟨fun h1 h2 => ⟨by have := h1.1; have := h1.2; have := h2.1; have := h2.2; (try dsimp only at *); first | omega | (simp only [List.length_map] at *; omega), by have := h1.1; have := h1.2; have := h2.1; have := h2.2; (try dsimp only at *); first | omega | (simp only [List.length_map] at *; omega)⟩, ?_⟩ | refine ⟨⟨(by (try dsimp only at *); omega : _ ≤ _), (by (try dsimp only at *); omega : _ < _)⟩, ?_⟩ | refine ⟨_, ⟨by (try dsimp only at *); omega, getD_at _ (by (try dsimp only at *); (try simp only [List.length_map] at *); omega) (rfl), rfl⟩, ?_⟩ | refine ⟨_, ⟨by (try dsimp only at *); omega, getD_at _ (by (try dsimp only at *); (try simp only [List.length_map] at *); omega) (icells_eq _), rfl⟩, ?_⟩ | refine ⟨_, ⟨by (try dsimp only at *); omega, str_at (by (try dsimp only at *); (try simp only [List.length_map] at *); omega)⟩, ?_⟩ | refine ⟨(rfl : look _ _ = look _ _), ?_⟩ | fail) <;> ((conv => whnf); repeat' (refine vcC_go tok {} rfl ?_; conv => whnf)))
    · refine ⟨fun ds hds => (by simp only [List.mem_singleton] at hds; subst hds; rfl), ?_⟩
      ((conv => whnf); repeat' (refine vcC_go tok {} rfl ?_; conv => whnf))
      refine ⟨fun h1 h2 => ?_, ?_⟩
      · simp only [List.length_singleton, List.length_map] at *
        constructor <;> omega
      ((conv => whnf); repeat' (refine vcC_go tok {} rfl ?_; conv => whnf))
      repeat' ((first | (intro hlq; (try simp only [List.length_map, maxLen] at hlq)) | refine ⟨fun h1 h2 => ⟨by have := h1.1; have := h1.2; have := h2.1; have := h2.2; (try dsimp only at *); first | omega | (simp only [List.length_map] at *; omega), by have := h1.1; have := h1.2; have := h2.1; have := h2.2; (try dsimp only at *); first | omega | (simp only [List.length_map] at *; omega)⟩, ?_⟩ | refine ⟨⟨(by (try dsimp only at *); omega : _ ≤ _), (by (try dsimp only at *); omega : _ < _)⟩, ?_⟩ | refine ⟨_, ⟨by (try dsimp only at *); omega, getD_at _ (by (try dsimp only at *); (try simp only [List.length_map] at *); omega) (rfl), rfl⟩, ?_⟩ | refine ⟨_, ⟨by (try dsimp only at *); omega, getD_at _ (by (try dsimp only at *); (try simp only [List.length_map] at *); omega) (Cond.cells_eq _), rfl⟩, ?_⟩ | refine ⟨_, ⟨by (try dsimp only at *); omega, str_at (by (try dsimp only at *); (try simp only [List.length_map] at *); omega)⟩, ?_⟩ | refine ⟨(rfl : look _ _ = look _ _), ?_⟩ | fail) <;> ((conv => whnf); repeat' (refine vcC_go tok {} rfl ?_; conv => whnf)))
      have hnb : hasI A E[i] = false := by simp_all
      refine ⟨⟨(i + 1, w ++ [E[i]]), ?_, ⟨by dsimp only; omega, by dsimp only; rw [hw, filter_take h1', hnb]; simp⟩, by dsimp only; omega⟩⟩
      repeat' (first | exact True.intro | exact rfl | refine And.intro ?_ ?_)
      all_goals (first | (dsimp only; rw [List.map_append]; done) | (dsimp only; rw [List.map_append]; rfl))
    · have hnb : hasI A E[i] = true := by simp_all
      refine ⟨⟨(i + 1, w), ?_, ⟨by dsimp only; omega, by dsimp only; rw [hw, filter_take h1', hnb]; simp⟩, by dsimp only; omega⟩⟩
      repeat' (first | exact True.intro | exact rfl | refine And.intro ?_ ?_)
  have hall : E.take i = E := List.take_of_length_le (by omega)
  rw [hall, ← kw] at hw
  subst hw
  refine loop_upd tok {} [] (X := Nat) (fun i => [(16, iB i)]) (fun _ => []) [] (fun i => i ≤ w.length) (fun i => w.length - i) 0 ?_
  ((conv => whnf); repeat' (refine vcC_go tok {} rfl ?_; conv => whnf))
  refine And.intro ?_ ⟨by omega, fun j hj => ?_⟩
  · repeat' (first | exact True.intro | exact rfl | refine And.intro ?_ ?_)
  ((conv => whnf); repeat' (refine vcC_go tok {} rfl ?_; conv => whnf))
  repeat' ((first | (intro hlq; (try simp only [List.length_map, maxLen] at hlq)) | refine ⟨fun h1 h2 => ⟨by have := h1.1; have := h1.2; have := h2.1; have := h2.2; (try dsimp only at *); first | omega | (simp only [List.length_map] at *; omega), by have := h1.1; have := h1.2; have := h2.1; have := h2.2; (try dsimp only at *); first | omega | (simp only [List.length_map] at *; omega)⟩, ?_⟩ | refine ⟨⟨(by (try dsimp only at *); omega : _ ≤ _), (by (try dsimp only at *); omega : _ < _)⟩, ?_⟩ | refine ⟨_, ⟨by (try dsimp only at *); omega, getD_at _ (by (try dsimp only at *); (try simp only [List.length_map] at *); omega) (rfl), rfl⟩, ?_⟩ | refine ⟨_, ⟨by (try dsimp only at *); omega, getD_at _ (by (try dsimp only at *); (try simp only [List.length_map] at *); omega) (Cond.cells_eq _), rfl⟩, ?_⟩ | refine ⟨_, ⟨by (try dsimp only at *); omega, str_at (by (try dsimp only at *); (try simp only [List.length_map] at *); omega)⟩, ?_⟩ | refine ⟨(rfl : look _ _ = look _ _), ?_⟩ | fail) <;> ((conv => whnf); repeat' (refine vcC_go tok {} rfl ?_; conv => whnf)))
  refine ⟨fun h2 => ?_, fun h2 => ?_⟩ <;> (try simp only [BB, List.length_map] at h2) <;> ((conv => whnf); repeat' (refine vcC_go tok {} rfl ?_; conv => whnf))
  · have h2' : j < w.length := by omega
    refine draw_rule tok (cf := {}) (by kernel_rfl) [.p 0, .p 1, .p 2, .p 3, .p 4, .p 5, .p 6, .s 7 [2,6,0,1,5,3,4], .p 8, .p 9, .p 10, .p 11, .p 12, .p 13, .p 14, .p 15, .p 16, .p 17, .p 18, .p 19, .p 20, .p 21] (by kernel_rfl) ?_
    ((conv => whnf); repeat' (refine vcC_go tok {} rfl ?_; conv => whnf))
    have hbef := nodup_before kc.1 h2'
    have hrng := kc.2 w[j] (List.getElem_mem h2')
    refine ⟨fun _ => ⟨by omega, by omega, by simp only [List.length_map]; omega, hone w⟩, ?_⟩
    ((conv => whnf); repeat' (refine vcC_go tok {} rfl ?_; conv => whnf))
    have hIn : Meets Tryz.prog 24 [.sl (List.drop (Int.toNat 0) (List.take ((j : Int)).toNat (List.map icells w))), iD w[j]] fun d => d = bD false := by
      have := In_meets (w.take j) w[j]
      rw [hbef, List.map_take] at this
      simpa using this
    repeat' ((first | (intro hlq; (try simp only [List.length_map, maxLen] at hlq)) | refine Meets.k (hIn) ?_ | ((refine ⟨fun (hb : _ = true) => ?_, fun (hb : _ = false) => ?_⟩) <;> (try simp only [BB, List.length_map] at hb)) | refine ⟨fun h1 h2 => ⟨by have := h1.1; have := h1.2; have := h2.1; have := h2.2; (try dsimp only at *); first | omega | (simp only [List.length_map] at *; omega), by have := h1.1; have := h1.2; have := h2.1; have := h2.2; (try dsimp only at *); first | omega | (simp only [List.length_map] at *; omega)⟩, ?_⟩ | refine ⟨⟨(by (try dsimp only at *); omega : _ ≤ _), (by (try dsimp only at *); omega : _ < _)⟩, ?_⟩ | refine ⟨_, ⟨by (try dsimp only at *); omega, getD_at _ (by (try dsimp only at *); (try simp only [List.length_map] at *); omega) (rfl), rfl⟩, ?_⟩ | refine ⟨_, ⟨by (try dsimp only at *); omega, getD_at _ (by (try dsimp only at *); (try simp only [List.length_map] at *); omega) (icells_eq _), rfl⟩, ?_⟩ | refine ⟨_, ⟨by (try dsimp only at *); omega, str_at (by (try dsimp only at *); (try simp only [List.length_map] at *); omega)⟩, ?_⟩ | refine ⟨(rfl : look _ _ = look _ _), ?_⟩ | fail) <;> ((conv => whnf); repeat' (refine vcC_go tok {} rfl ?_; conv => whnf)))
    all_goals first
      | (exfalso; simp_all; done)
      | (exfalso; omega)
      | (refine ⟨⟨j + 1, ?_, by omega, by omega⟩⟩
         repeat' (first | exact True.intro | exact rfl | refine And.intro ?_ ?_))
  repeat' ((first | (intro hlq; (try simp only [List.length_map, maxLen] at hlq)) | refine Meets.k (Same_meets w w) ?_ | ((refine ⟨fun (hb : _ = true) => ?_, fun (hb : _ = false) => ?_⟩) <;> (try simp only [BB, List.length_map] at hb)) | refine ⟨fun h1 h2 => ⟨by have := h1.1; have := h1.2; have := h2.1; have := h2.2; (try dsimp only at *); first | omega | (simp only [List.length_map] at *; omega), by have := h1.1; have := h1.2; have := h2.1; have := h2.2; (try dsimp only at *); first | omega | (simp only [List.length_map] at *; omega)⟩, ?_⟩ | refine ⟨⟨(by (try dsimp only at *); omega : _ ≤ _), (by (try dsimp only at *); omega : _ < _)⟩, ?_⟩ | refine ⟨_, ⟨by (try dsimp only at *); omega, getD_at _ (by (try dsimp only at *); (try simp only [List.length_map] at *); omega) (rfl), rfl⟩, ?_⟩ | refine ⟨_, ⟨by (try dsimp only at *); omega, getD_at _ (by (try dsimp only at *); (try simp only [List.length_map] at *); omega) (Cond.cells_eq _), rfl⟩, ?_⟩ | refine ⟨_, ⟨by (try dsimp only at *); omega, str_at (by (try dsimp only at *); (try simp only [List.length_map] at *); omega)⟩, ?_⟩ | refine ⟨(rfl : look _ _ = look _ _), ?_⟩ | fail) <;> ((conv => whnf); repeat' (refine vcC_go tok {} rfl ?_; conv => whnf)))
  all_goals exact ⟨congrArg bD (by simp)⟩
end Go.Proofs.YtiejhmfeppflaaaGreat.Dx
