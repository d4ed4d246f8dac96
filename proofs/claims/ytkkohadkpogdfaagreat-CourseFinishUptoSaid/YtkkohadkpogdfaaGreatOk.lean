/- The walks of two laws: the course's functions agree with the reference. -/
import Derived.Test.YtkkohadkpogdfaaGreatOi
import Derived.Test.YtkkohadkpogdfaaGreatOj
import Derived.Test.YtkkohadkpogdfaaGreatOg
import Derived.Test.YtkkohadkpogdfaaGreatOe
namespace Go.Proofs.YtkkohadkpogdfaaGreat.Dx
open Go Go.RowKit
set_option linter.all false
set_option maxRecDepth 100000
set_option maxHeartbeats 16000000

theorem RouteSpec_meets (c : Course) (hc : c.small) (d x m l : Int) : Meets Tryz.prog 3 [c.d, iD d, iD x, iD m, iD l] fun r => r = bD true := by
  refine enter tok {} Tryz.func3 rfl (by kernel_rfl) Tryz.ntmps3 (by simp) fun B0 W0 V0 lent g0 => ?_
  ((conv => whnf); repeat' (refine vcC_go tok {} rfl ?_; conv => whnf))
  refine Meets.k sane9_meets ?_
  ((conv => whnf); repeat' (refine vcC_go tok {} rfl ?_; conv => whnf))
  refine ⟨fun h0 => ?_, fun h0 => ?_⟩ <;> (try simp only [BB, List.length_map] at h0) <;> ((conv => whnf); repeat' (refine vcC_go tok {} rfl ?_; conv => whnf))
  · exact (Bool.noConfusion h0)
  refine (Few_meets c hc).mono ?_
  rintro r ⟨b, rfl⟩
  ((conv => whnf); repeat' (refine vcC_go tok {} rfl ?_; conv => whnf))
  refine ⟨fun h0 => ?_, fun h0 => ?_⟩ <;> (try simp only [BB, List.length_map] at h0) <;> ((conv => whnf); repeat' (refine vcC_go tok {} rfl ?_; conv => whnf))
  · exact ⟨rfl⟩
  repeat' ((first | (intro hlq; (try simp only [List.length_map, maxLen] at hlq)) | refine Ka ?_ | refine Kb ?_ | refine Kc (hd := rfl) (e := ?_) | refine Kc (hd := Cond.cells_eq _) (e := ?_) | refine Kd (e := ?_) | refine ⟨(rfl : look _ _ = look _ _), ?_⟩ | fail) <;> ((conv => whnf); repeat' (refine vcC_go tok {} rfl ?_; conv => whnf)))
  refine loop_upd tok {} [] (X := Nat) (fun i => [(33, iB i)]) (fun _ => []) [] (fun i => i ≤ 2) (fun i => 2 - i) 0 ?_
  ((conv => whnf); repeat' (refine vcC_go tok {} rfl ?_; conv => whnf))
  refine And.intro ?_ ⟨by omega, fun i hi => ?_⟩
  · repeat' (first | exact True.intro | exact rfl | refine And.intro ?_ ?_)
  ((conv => whnf); repeat' (refine vcC_go tok {} rfl ?_; conv => whnf))
  refine ⟨fun h1 => ?_, fun h1 => ?_⟩ <;> (try simp only [BB, List.length_map] at h1) <;> ((conv => whnf); repeat' (refine vcC_go tok {} rfl ?_; conv => whnf))
  · have h1' : i < 2 := by dsimp only [List.length_cons, List.length_nil] at h1; omega
    refine ⟨_, ⟨by omega, getD_at (xs := [d, _]) icells (by simpa using h1') rfl, rfl⟩, ?_⟩
    ((conv => whnf); repeat' (refine vcC_go tok {} rfl ?_; conv => whnf))
    repeat' ((first | (intro hlq; (try simp only [List.length_map, maxLen] at hlq)) | refine Ka ?_ | refine Kb ?_ | refine Kc (hd := rfl) (e := ?_) | refine Kc (hd := Cond.cells_eq _) (e := ?_) | refine Kd (e := ?_) | refine ⟨(rfl : look _ _ = look _ _), ?_⟩ | fail) <;> ((conv => whnf); repeat' (refine vcC_go tok {} rfl ?_; conv => whnf)))
    refine loop_upd tok {} [] (X := Nat) (fun i => [(42, iB i)]) (fun _ => []) [] (fun i => i ≤ 2) (fun i => 2 - i) 0 ?_
    ((conv => whnf); repeat' (refine vcC_go tok {} rfl ?_; conv => whnf))
    refine And.intro ?_ ⟨by omega, fun j hj => ?_⟩
    · repeat' (first | exact True.intro | exact rfl | refine And.intro ?_ ?_)
    ((conv => whnf); repeat' (refine vcC_go tok {} rfl ?_; conv => whnf))
    refine ⟨fun h2 => ?_, fun h2 => ?_⟩ <;> (try simp only [BB, List.length_map] at h2) <;> ((conv => whnf); repeat' (refine vcC_go tok {} rfl ?_; conv => whnf))
    · have h2' : j < 2 := by dsimp only [List.length_cons, List.length_nil] at h2; omega
      refine ⟨_, ⟨by omega, getD_at (xs := [x, _]) icells (by simpa using h2') rfl, rfl⟩, ?_⟩
      ((conv => whnf); repeat' (refine vcC_go tok {} rfl ?_; conv => whnf))
      repeat' ((first | (intro hlq; (try simp only [List.length_map, maxLen] at hlq)) | refine Meets.k (Route_meets c hc _ _) ?_ | refine Meets.k (rRoute_meets c hc _ _) ?_ | refine Meets.k (Same_meets _ _) ?_ | refine Meets.k (Position_meets c hc _ _ _ _) ?_ | refine Meets.k (rPosition_meets c hc _ _ _ _) ?_ | ((refine ⟨fun (hb : _ = true) => ?_, fun (hb : _ = false) => ?_⟩) <;> (try simp only [BB, List.length_map] at hb)) | refine Ka ?_ | refine Kb ?_ | refine Kc (hd := rfl) (e := ?_) | refine Kc (hd := Cond.cells_eq _) (e := ?_) | refine Kd (e := ?_) | refine ⟨(rfl : look _ _ = look _ _), ?_⟩ | fail) <;> ((conv => whnf); repeat' (refine vcC_go tok {} rfl ?_; conv => whnf)))
      all_goals (try exact absurd trivial hb)
      all_goals (try exact absurd rfl hb)
      refine ⟨⟨j + 1, ?_, by omega, by omega⟩⟩
      repeat' (first | exact True.intro | exact rfl | refine And.intro ?_ ?_)
    · repeat' ((first | (intro hlq; (try simp only [List.length_map, maxLen] at hlq)) | refine Ka ?_ | refine Kb ?_ | refine Kc (hd := rfl) (e := ?_) | refine Kc (hd := Cond.cells_eq _) (e := ?_) | refine Kd (e := ?_) | refine ⟨(rfl : look _ _ = look _ _), ?_⟩ | fail) <;> ((conv => whnf); repeat' (refine vcC_go tok {} rfl ?_; conv => whnf)))
      refine ⟨⟨i + 1, ?_, by omega, by omega⟩⟩
      repeat' (first | exact True.intro | exact rfl | refine And.intro ?_ ?_)
  · exact ⟨rfl⟩

theorem BetweenSpec_meets (c : Course) (hc : c.small) (d x f t : Int) : Meets Tryz.prog 4 [c.d, iD d, iD x, iD f, iD t] fun r => r = bD true := by
  refine enter tok {} Tryz.func4 rfl (by kernel_rfl) Tryz.ntmps4 (by simp) fun B0 W0 V0 lent g0 => ?_
  ((conv => whnf); repeat' (refine vcC_go tok {} rfl ?_; conv => whnf))
  refine Meets.k sane9_meets ?_
  ((conv => whnf); repeat' (refine vcC_go tok {} rfl ?_; conv => whnf))
  refine ⟨fun h0 => ?_, fun h0 => ?_⟩ <;> (try simp only [BB, List.length_map] at h0) <;> ((conv => whnf); repeat' (refine vcC_go tok {} rfl ?_; conv => whnf))
  · exact (Bool.noConfusion h0)
  refine (Few_meets c hc).mono ?_
  rintro r ⟨b, rfl⟩
  ((conv => whnf); repeat' (refine vcC_go tok {} rfl ?_; conv => whnf))
  refine ⟨fun h0 => ?_, fun h0 => ?_⟩ <;> (try simp only [BB, List.length_map] at h0) <;> ((conv => whnf); repeat' (refine vcC_go tok {} rfl ?_; conv => whnf))
  · exact ⟨rfl⟩
  repeat' ((first | (intro hlq; (try simp only [List.length_map, maxLen] at hlq)) | refine Ka ?_ | refine Kb ?_ | refine Kc (hd := rfl) (e := ?_) | refine Kc (hd := Cond.cells_eq _) (e := ?_) | refine Kd (e := ?_) | refine ⟨(rfl : look _ _ = look _ _), ?_⟩ | fail) <;> ((conv => whnf); repeat' (refine vcC_go tok {} rfl ?_; conv => whnf)))
  refine loop_upd tok {} [] (X := Nat) (fun i => [(37, iB i)]) (fun _ => []) [] (fun i => i ≤ 2) (fun i => 2 - i) 0 ?_
  ((conv => whnf); repeat' (refine vcC_go tok {} rfl ?_; conv => whnf))
  refine And.intro ?_ ⟨by omega, fun i hi => ?_⟩
  · repeat' (first | exact True.intro | exact rfl | refine And.intro ?_ ?_)
  ((conv => whnf); repeat' (refine vcC_go tok {} rfl ?_; conv => whnf))
  refine ⟨fun h1 => ?_, fun h1 => ?_⟩ <;> (try simp only [BB, List.length_map] at h1) <;> ((conv => whnf); repeat' (refine vcC_go tok {} rfl ?_; conv => whnf))
  · have h1' : i < 2 := by dsimp only [List.length_cons, List.length_nil] at h1; omega
    refine ⟨_, ⟨by omega, getD_at (xs := [d, _]) icells (by simpa using h1') rfl, rfl⟩, ?_⟩
    ((conv => whnf); repeat' (refine vcC_go tok {} rfl ?_; conv => whnf))
    repeat' ((first | (intro hlq; (try simp only [List.length_map, maxLen] at hlq)) | refine Meets.k (Between_meets c hc _ _ _ _) ?_ | refine Meets.k (rBetween_meets c hc _ _ _ _) ?_ | refine Meets.k (Finish_meets c hc _) ?_ | refine Meets.k (rFinish_meets c hc _) ?_ | ((refine ⟨fun (hb : _ = true) => ?_, fun (hb : _ = false) => ?_⟩) <;> (try simp only [BB, List.length_map] at hb)) | refine Ka ?_ | refine Kb ?_ | refine Kc (hd := rfl) (e := ?_) | refine Kc (hd := Cond.cells_eq _) (e := ?_) | refine Kd (e := ?_) | refine ⟨(rfl : look _ _ = look _ _), ?_⟩ | fail) <;> ((conv => whnf); repeat' (refine vcC_go tok {} rfl ?_; conv => whnf)))
    refine ⟨⟨⟨[_, _], rfl, rfl⟩, ⟨[_, _], rfl, rfl⟩⟩, ?_⟩
    ((conv => whnf); repeat' (refine vcC_go tok {} rfl ?_; conv => whnf))
    repeat' ((first | (intro hlq; (try simp only [List.length_map, maxLen] at hlq)) | ((refine ⟨fun (hb : _ = true) => ?_, fun (hb : _ = false) => ?_⟩) <;> (try simp only [BB, List.length_map] at hb)) | refine Ka ?_ | refine Kb ?_ | refine Kc (hd := rfl) (e := ?_) | refine Kc (hd := Cond.cells_eq _) (e := ?_) | refine Kd (e := ?_) | refine ⟨(rfl : look _ _ = look _ _), ?_⟩ | fail) <;> ((conv => whnf); repeat' (refine vcC_go tok {} rfl ?_; conv => whnf)))
    all_goals (try exact absurd trivial hb)
    all_goals (try exact absurd rfl hb)
    refine ⟨⟨⟨[_, _], rfl, rfl⟩, ⟨[_, _], rfl, rfl⟩⟩, ?_⟩
    ((conv => whnf); repeat' (refine vcC_go tok {} rfl ?_; conv => whnf))
    repeat' ((first | (intro hlq; (try simp only [List.length_map, maxLen] at hlq)) | ((refine ⟨fun (hb : _ = true) => ?_, fun (hb : _ = false) => ?_⟩) <;> (try simp only [BB, List.length_map] at hb)) | refine Ka ?_ | refine Kb ?_ | refine Kc (hd := rfl) (e := ?_) | refine Kc (hd := Cond.cells_eq _) (e := ?_) | refine Kd (e := ?_) | refine ⟨(rfl : look _ _ = look _ _), ?_⟩ | fail) <;> ((conv => whnf); repeat' (refine vcC_go tok {} rfl ?_; conv => whnf)))
    all_goals (try exact absurd trivial hb)
    all_goals (try exact absurd rfl hb)
    all_goals (try exact Bool.noConfusion (hb.symm.trans (by simp)))
    all_goals (try (exfalso; revert hb; simp; done))
    refine ⟨⟨i + 1, ?_, by omega, by omega⟩⟩
    repeat' (first | exact True.intro | exact rfl | refine And.intro ?_ ?_)
  · repeat' ((first | (intro hlq; (try simp only [List.length_map, maxLen] at hlq)) | refine Meets.k (Unused_meets c hc) ?_ | refine Meets.k (rUnused_meets c hc) ?_ | refine Meets.k (Same_meets _ _) ?_ | ((refine ⟨fun (hb : _ = true) => ?_, fun (hb : _ = false) => ?_⟩) <;> (try simp only [BB, List.length_map] at hb)) | refine Ka ?_ | refine Kb ?_ | refine Kc (hd := rfl) (e := ?_) | refine Kc (hd := Cond.cells_eq _) (e := ?_) | refine Kd (e := ?_) | refine ⟨(rfl : look _ _ = look _ _), ?_⟩ | fail) <;> ((conv => whnf); repeat' (refine vcC_go tok {} rfl ?_; conv => whnf)))
    all_goals (try exact absurd trivial hb)
    all_goals (try exact absurd rfl hb)
    all_goals (try exact ⟨congrArg bD (by simp)⟩)
end Go.Proofs.YtkkohadkpogdfaaGreat.Dx

/- Plain laws of routes and times: sums, neighbours, one penalty lap more. -/
namespace Go.Proofs.YtkkohadkpogdfaaGreat.Dx
open Go Go.RowKit
set_option linter.all false
set_option maxRecDepth 100000
set_option maxHeartbeats 1600000

def sumLo (c : Course) (m : List Int) (f : Nat) : Nat → Int
  | 0 => 0
  | n + 1 => sumLo c m f n + (legOf c (m.getD (f + n) 0) (m.getD (f + n + 1) 0)).lo
def sumHi (c : Course) (m : List Int) (f : Nat) : Nat → Int
  | 0 => 0
  | n + 1 => sumHi c m f n + (legOf c (m.getD (f + n) 0) (m.getD (f + n + 1) 0)).hi
theorem sums_le {c : Course} (hn : NumsOk c) (m : List Int) (f : Nat) : ∀ n, 0 ≤ sumLo c m f n ∧ sumLo c m f n ≤ sumHi c m f n
  | 0 => ⟨Int.le_refl _, Int.le_refl _⟩
  | n + 1 => by
    have h := sums_le hn m f n
    have hl := legOf_good hn (m.getD (f + n) 0) (m.getD (f + n + 1) 0)
    simp only [sumLo, sumHi]
    omega
theorem spanF_sum {c : Course} (hn : NumsOk c) (m : List Int) (f : Nat) : ∀ n, (spanF c m f n).1 = min most (sumLo c m f n) ∧ (spanF c m f n).2 = min most (sumHi c m f n)
  | 0 => ⟨rfl, rfl⟩
  | n + 1 => by
    have h := spanF_sum hn m f n
    have hl := legOf_good hn (m.getD (f + n) 0) (m.getD (f + n + 1) 0)
    simp only [sumLo, sumHi, spanF]
    omega
theorem sum_add (c : Course) (m : List Int) (f a : Nat) : ∀ b, sumLo c m f (a + b) = sumLo c m f a + sumLo c m (f + a) b ∧ sumHi c m f (a + b) = sumHi c m f a + sumHi c m (f + a) b
  | 0 => by simp [sumLo, sumHi]
  | b + 1 => by
    have h := sum_add c m f a b
    rw [← Nat.add_assoc a b 1]
    simp only [sumLo, sumHi, h.1, h.2, Nat.add_assoc, Int.add_assoc]
    exact ⟨trivial, trivial⟩
/-- times between positions add up -/
theorem span_add {c : Course} (hn : NumsOk c) (m : List Int) (f a b : Nat) :
    (spanF c m f a).1 ≤ (spanF c m f (a + b)).1 ∧ (spanF c m (f + a) b).2 ≤ (spanF c m f (a + b)).2 ∧ (spanF c m f (a + b)).1 ≤ (spanF c m f (a + b)).2 ∧
      ((spanF c m f (a + b)).2 < most → (spanF c m f (a + b)).1 = (spanF c m f a).1 + (spanF c m (f + a) b).1 ∧ (spanF c m f (a + b)).2 = (spanF c m f a).2 + (spanF c m (f + a) b).2) := by
  have h1 := spanF_sum hn m f a
  have h2 := spanF_sum hn m (f + a) b
  have h3 := spanF_sum hn m f (a + b)
  have h4 := sum_add c m f a b
  have h5 := sums_le hn m f a
  have h6 := sums_le hn m (f + a) b
  omega

/-! ### neighbours -/
def near (c : Course) (m : List Int) : Prop := ∀ i, i + 1 < m.length → c.leg (m.getD i 0) (m.getD (i + 1) 0) = true
theorem Valid.near {c : Course} {d : Int} (h : Valid c d) : near c (mats0 c d) := by
  intro i hi
  have hr := h.route
  simp only [routeOk, Bool.and_eq_true, h.ex, List.all_eq_true, List.mem_range] at hr
  have := hr.2.1 (i + 1) hi
  simp only [posOk, Bool.and_eq_true, Bool.or_eq_true, decide_eq_true_eq] at this
  rcases this.2 with h0 | h0
  · omega
  · exact h0
theorem Valid.self {c : Course} {d : Int} (h : Valid c d) (hx : 0 ≤ (findD c d).extra) : c.leg (findD c d).extra (findD c d).extra = true := by
  have hr := h.route
  simp only [routeOk, Bool.and_eq_true, extraOk, Bool.or_eq_true, decide_eq_true_eq] at hr
  rcases hr.2.2.1 with he | ⟨_, _, he⟩
  · omega
  · exact he
theorem ins1_get (m : List Int) (e : Int) (i : Nat) : (insL m e 1).getD i 0 = if i < lastN m e then m.getD i 0 else if i = lastN m e then e else m.getD (i - 1) 0 := by
  have hle := lastN_le e m
  simp only [insL, List.getD_eq_getElem?_getD, List.replicate_one]
  split
  · rename_i h
    rw [List.getElem?_append_left (by rw [List.length_take]; omega), List.getElem?_take_of_lt h]
  · rename_i h
    rw [List.getElem?_append_right (by rw [List.length_take]; omega), List.length_take, Nat.min_eq_left hle]
    split
    · rename_i h2
      rw [h2]; simp
    · rename_i h2
      rw [show i - lastN m e = (i - lastN m e - 1) + 1 by omega, List.singleton_append, List.getElem?_cons_succ, List.getElem?_drop, show lastN m e + (i - lastN m e - 1) = i - 1 by omega]
theorem near_ins {c : Course} {m : List Int} {e : Int} (h : near c m) (hk : 0 < lastN m e) (he : c.leg e e = true) : near c (insL m e 1) := by
  intro i hi
  rw [insL_len] at hi
  have hle := lastN_le e m
  have hg := lastN_get e m hk
  have hg' : m.getD (lastN m e - 1) 0 = e := by rw [List.getD_eq_getElem?_getD, hg]; rfl
  rw [ins1_get, ins1_get]
  by_cases h1 : i + 1 < lastN m e
  · rw [if_pos (by omega), if_pos h1]; exact h i (by omega)
  by_cases h2 : i + 1 = lastN m e
  · rw [if_pos (by omega), if_neg h1, if_pos h2, show i = lastN m e - 1 by omega, hg']; exact he
  by_cases h3 : i = lastN m e
  · rw [if_neg (by omega), if_pos h3, if_neg h1, if_neg h2, show i + 1 - 1 = (lastN m e - 1) + 1 by omega]
    have := h (lastN m e - 1) (by omega)
    rwa [hg'] at this
  · rw [if_neg (by omega), if_neg h3, if_neg h1, if_neg h2, show i + 1 - 1 = (i - 1) + 1 by omega]
    exact h (i - 1) (by omega)
theorem insL_last {m : List Int} {e : Int} (hk : 0 < lastN m e) (n : Nat) : lastN (insL m e n) e = lastN m e + n := by
  have hle := lastN_le e m
  have hget : ∀ i, lastN m e + n ≤ i → (insL m e n)[i]? = m[i - n]? := by
    intro i hi
    rw [insL, List.getElem?_append_right (by rw [List.length_take]; omega), List.length_take, Nat.min_eq_left hle, List.getElem?_append_right (by rw [List.length_replicate]; omega), List.length_replicate, List.getElem?_drop,
      show lastN m e + (i - lastN m e - n) = i - n by omega]
  have h1 : (insL m e n)[lastN m e + n - 1]? = some e := by
    rw [insL]
    cases n with
    | zero =>
      rw [List.getElem?_append_left (by rw [List.length_take]; omega), List.getElem?_take_of_lt (by omega)]
      exact lastN_get e m hk
    | succ n =>
      rw [List.getElem?_append_right (by rw [List.length_take]; omega), List.length_take, Nat.min_eq_left hle, List.getElem?_append_left (by rw [List.length_replicate]; omega), List.getElem?_replicate, if_pos (by omega)]
  have h2 := lastN_ge e _ _ h1
  by_cases h3 : lastN (insL m e n) e = lastN m e + n
  · exact h3
  · exfalso
    have h4 := lastN_get e (insL m e n) (by omega)
    rw [hget _ (by omega)] at h4
    have := lastN_ge e m _ h4
    omega
theorem insL_succ {m : List Int} {e : Int} (hk : 0 < lastN m e) (n : Nat) : insL m e (n + 1) = insL (insL m e n) e 1 := by
  have hle := lastN_le e m
  have hl : (m.take (lastN m e) ++ List.replicate n e).length = lastN m e + n := by simp; omega
  have e1 : insL m e n = (m.take (lastN m e) ++ List.replicate n e) ++ m.drop (lastN m e) := by rw [insL, List.append_assoc]
  rw [insL.eq_1 (insL m e n), insL_last hk n, e1, List.take_left' hl, List.drop_left' hl, insL, List.append_assoc, ← List.append_assoc (List.replicate n e), List.replicate_append_replicate]
theorem insL_zero (m : List Int) (e : Int) : insL m e 0 = m := by simp [insL]
theorem near_insL {c : Course} {m : List Int} {e : Int} (h : near c m) (hk : 0 < lastN m e) (he : c.leg e e = true) : ∀ n, near c (insL m e n)
  | 0 => by rw [insL_zero]; exact h
  | n + 1 => by
    rw [insL_succ hk]
    exact near_ins (near_insL h hk he n) (by rw [insL_last hk]; omega) he
theorem Built.extra {c : Course} {d x : Int} (h : Built c d x) (hx : 0 < x) : 0 ≤ (findD c d).extra := by
  have h0 := h.zero
  rw [buildE, if_neg (by rw [h.valid.zero]; simp)] at h0
  split at h0
  · omega
  · omega
theorem Built.near {c : Course} {d x : Int} (h : Built c d x) : near c (matsX c d x) := by
  rw [matsX]
  split
  · rename_i hx
    have he := h.extra hx
    exact near_insL h.valid.near (h.valid.extra he).1 (h.valid.self he) _
  · exact h.valid.near
/-- one penalty lap more -/
theorem Built.next {c : Course} {d x : Int} (h : Built c d x) (h' : Built c d (x + 1)) : 0 < lastN (matsX c d x) (findD c d).extra ∧ matsX c d (x + 1) = insL (matsX c d x) (findD c d).extra 1 := by
  have hx := h.x0
  have he := h'.extra (by omega)
  have hk := (h.valid.extra he).1
  have hs : matsX c d x = insL (mats0 c d) (findD c d).extra x.toNat := by
    rw [matsX]
    split
    · rfl
    · rw [show x.toNat = 0 by omega, insL_zero]
  rw [hs, insL_last hk]
  refine ⟨by omega, ?_⟩
  rw [matsX, if_pos (by omega), show (x + 1).toNat = x.toNat + 1 by omega, insL_succ hk]
theorem leg_any {c : Course} {a b : Int} : c.leg a b = c.legs.any (isLeg a b) := by
  rw [Bool.eq_iff_iff, Course.leg, decide_eq_true_eq, List.any_eq_true]
  constructor
  · intro h
    obtain ⟨x, hx, e⟩ := List.mem_map.1 h
    refine ⟨x, hx, ?_⟩
    have e1 := congrArg Prod.fst e
    have e2 := congrArg Prod.snd e
    simp only at e1 e2
    simp [isLeg, e1, e2]
  · rintro ⟨x, hx, h⟩
    simp only [isLeg, Bool.and_eq_true, decide_eq_true_eq] at h
    exact List.mem_map.2 ⟨x, hx, by rw [h.1, h.2]⟩
theorem and3 (a : Int) : 0 ≤ IntKind.wrap .i64 ((BitVec.ofInt IntKind.i64.bits a &&& BitVec.ofInt IntKind.i64.bits 3).toNat : Int) ∧ IntKind.wrap .i64 ((BitVec.ofInt IntKind.i64.bits a &&& BitVec.ofInt IntKind.i64.bits 3).toNat : Int) ≤ 3 := by
  have h : (BitVec.ofInt IntKind.i64.bits a &&& BitVec.ofInt IntKind.i64.bits 3).toNat ≤ 3 := by
    rw [BitVec.toNat_and]
    exact Nat.le_trans Nat.and_le_right (by decide)
  generalize (BitVec.ofInt IntKind.i64.bits a &&& BitVec.ofInt IntKind.i64.bits 3).toNat = n at h
  have : n = 0 ∨ n = 1 ∨ n = 2 ∨ n = 3 := by omega
  rcases this with rfl | rfl | rfl | rfl <;> exact ⟨by decide, by decide⟩
end Go.Proofs.YtkkohadkpogdfaaGreat.Dx

