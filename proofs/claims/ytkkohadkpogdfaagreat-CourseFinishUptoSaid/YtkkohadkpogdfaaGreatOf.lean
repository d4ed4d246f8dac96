/- Unused, in the code and in the reference. -/
import Derived.Test.YtkkohadkpogdfaaGreatOe
namespace Go.Proofs.YtkkohadkpogdfaaGreat.Dx
open Go Go.RowKit
set_option linter.all false
set_option maxRecDepth 100000
set_option maxHeartbeats 16000000

def usesB (n : Int) (d : Distance) : Bool := decide (n ∈ Part.fullL d.route)
def unusedL (c : Course) (k : Nat) : List Int := ((List.range k).filter fun i : Nat => !c.distances.any (usesB (i : Int))).map fun i : Nat => (i : Int)
def unusedM (c : Course) : List Int := if courseE c = 0 then unusedL c c.mats.length else []
theorem unusedL_succ (c : Course) (k : Nat) : unusedL c (k + 1) = unusedL c k ++ if c.distances.any (usesB k) then [] else [(k : Int)] := by
  rw [unusedL, unusedL, List.range_succ, List.filter_append, List.map_append]
  congr 1
  rw [List.filter_cons]
  cases c.distances.any (usesB k) <;> simp
theorem unusedL_len (c : Course) (k : Nat) : (unusedL c k).length ≤ k := by
  rw [unusedL, List.length_map]
  have := List.length_filter_le (fun i : Nat => !c.distances.any (usesB i)) (List.range k)
  rwa [List.length_range] at this

structure DistOk (c : Course) (d : Distance) : Prop where
  good : ∀ p ∈ d.route, p.good c.m = true
  le : (Part.fullL d.route).length ≤ 256
  ex : Part.rxL d.route [] = Part.fullL d.route
theorem dist_ok {c : Course} (h : courseE c = 0) {d : Distance} (hd : d ∈ c.distances) : DistOk c d := by
  obtain ⟨h1, h2⟩ := courseE_zero h
  have hr := h2 _ hd
  simp only [routeOk, Bool.and_eq_true, decide_eq_true_eq] at hr
  have he := exL_small d.route [] hr.1.2
  rw [List.nil_append] at he
  have hg := h1.distances _ hd
  simp only [Distance.good, Bool.and_eq_true, List.all_eq_true] at hg
  have hle : (Part.fullL d.route).length ≤ 256 := by have := hr.1.2; rw [he] at this; exact this
  refine ⟨hg.2.2.1, hle, ?_⟩
  have := rxL_full c.m d.route [] hg.2.2.1 (by simpa using hle)
  rwa [List.nil_append] at this

/-- a set of numbers as a map -/
def SetM (lm : List (D × D)) (p : Int → Bool) : Prop := (∀ n : Int, (mget lm (iD n)).getD (bD false) = bD (p n)) ∧ ∀ q ∈ lm, KInt .i64 q.1
theorem SetM.nil {p : Int → Bool} (h : ∀ n, p n = false) : SetM [] p := ⟨fun n => by rw [h]; rfl, fun q hq => by cases hq⟩
theorem SetM.put {lm : List (D × D)} {p q : Int → Bool} (h : SetM lm p) (x : Int) (hq : ∀ n, q n = (decide (n = x) || p n)) : SetM (mput lm (iD x) (bD true)) q := by
  refine ⟨fun n => ?_, imap_keys h.2⟩
  rw [mget_mput]
  by_cases e : n = x
  · subst e; rw [if_pos rfl, hq]; simp
  · have : ¬ (iD x = iD n) := fun h => e (by simpa using h.symm)
    rw [if_neg this, h.1, hq, decide_eq_false e, Bool.false_or]
theorem any_take_succ {α : Type} {p : α → Bool} {xs : List α} {i : Nat} (h : i < xs.length) : (xs.take (i + 1)).any p = ((xs.take i).any p || p xs[i]) := by
  rw [List.take_succ_eq_append_getElem h, List.any_append]; simp

theorem Unused_meets (c : Course) (hc : c.small) : Meets Tryz.prog 19 [c.d] fun r => r = .tup [.sl ((unusedM c).map icells), iD (courseE c)] := by
  have hdl := hc.distances
  have hml := hc.mats
  refine enter tok {rs := [26]} Tryz.func19 rfl (by kernel_rfl) Tryz.ntmps19 (by simp) fun B0 W0 V0 lent g0 => ?_
  ((conv => whnf); repeat' (refine vcC_go tok {rs := [26]} rfl ?_; conv => whnf))
  refine Meets.k (Course_meets c hc) ?_
  ((conv => whnf); repeat' (refine vcC_go tok {rs := [26]} rfl ?_; conv => whnf))
  refine ⟨fun h1 => ?_, fun h1 => ?_⟩ <;> (try simp only [BB, List.length_map] at h1) <;> ((conv => whnf); repeat' (refine vcC_go tok {rs := [26]} rfl ?_; conv => whnf))
  · exact ⟨by rw [unusedM, if_neg h1]; rfl⟩
  have hz : courseE c = 0 := Decidable.not_not.1 h1
  repeat' ((first | (intro hlq; (try simp only [List.length_map, maxLen] at hlq)) | refine Ka ?_ | refine Kb ?_ | refine Kc (hd := rfl) (e := ?_) | refine Kc (hd := Cond.cells_eq _) (e := ?_) | refine Kd (e := ?_) | refine ⟨(rfl : look _ _ = look _ _), ?_⟩ | fail) <;> ((conv => whnf); repeat' (refine vcC_go tok {rs := [26]} rfl ?_; conv => whnf)))
  refine loop_upd tok {rs := [26]} [] (X := Nat × List (D × D)) (fun s => [(20, iB s.1)]) (fun s => [(16, .mp s.2)]) [7, 1002] (fun s => s.1 ≤ c.distances.length ∧ SetM s.2 (fun n => (c.distances.take s.1).any (usesB n))) (fun s => c.distances.length - s.1) (0, []) ?_
  ((conv => whnf); repeat' (refine vcC_go tok {rs := [26]} rfl ?_; conv => whnf))
  refine And.intro ?_ ⟨⟨Nat.zero_le _, SetM.nil fun n => by simp⟩, fun s hΦ => ?_⟩
  · repeat' (first | exact True.intro | exact rfl | refine And.intro ?_ ?_)
  obtain ⟨i, lm⟩ := s
  obtain ⟨hi, hset⟩ := hΦ
  dsimp only at hi hset
  ((conv => whnf); repeat' (refine vcC_go tok {rs := [26]} rfl ?_; conv => whnf))
  refine ⟨fun h2 => ?_, fun h2 => ?_⟩ <;> (try simp only [BB, List.length_map] at h2) <;> ((conv => whnf); repeat' (refine vcC_go tok {rs := [26]} rfl ?_; conv => whnf))
  · have h1' : i < c.distances.length := by omega
    have hk := dist_ok hz (List.getElem_mem h1')
    repeat' ((first | (intro hlq; (try simp only [List.length_map, maxLen] at hlq)) | refine Ka ?_ | refine Kb ?_ | refine Kc (hd := rfl) (e := ?_) | refine Kc (hd := Distance.cells_eq _) (e := ?_) | refine Kd (e := ?_) | refine ⟨(rfl : look _ _ = look _ _), ?_⟩ | fail) <;> ((conv => whnf); repeat' (refine vcC_go tok {rs := [26]} rfl ?_; conv => whnf)))
    refine ⟨[], [.d (.sl (c.distances[i].route.map Part.cells))], ⟨?_, ?_⟩, (expand_own c.m c.distances[i].route hk.good (by have := hk.le; omega)).mono ?_⟩
    · repeat' (first | exact True.intro | exact rfl | refine And.intro ?_ ?_)
    · repeat' (first | exact True.intro | exact rfl | refine And.intro ?_ ?_)
    rintro o O' ⟨rfl, rfl⟩
    have hle := hk.le
    have hu : ∀ n, usesB n c.distances[i] = decide (n ∈ Part.fullL c.distances[i].route) := fun n => rfl
    generalize Part.fullL c.distances[i].route = m at *
    ((conv => whnf); repeat' (refine vcC_go tok {rs := [26]} rfl ?_; conv => whnf))
    repeat' ((first | (intro hlq; (try simp only [List.length_map, maxLen] at hlq)) | refine Ka ?_ | refine Kb ?_ | refine Kc (hd := rfl) (e := ?_) | refine Kc (hd := Cond.cells_eq _) (e := ?_) | refine Kd (e := ?_) | refine ⟨(rfl : look _ _ = look _ _), ?_⟩ | fail) <;> ((conv => whnf); repeat' (refine vcC_go tok {rs := [26]} rfl ?_; conv => whnf)))
    refine loop_upd tok {rs := [26]} [] (X := Nat × List (D × D)) (fun s => [(28, iB s.1)]) (fun s => [(16, .mp s.2)]) [] (fun s => s.1 ≤ m.length ∧ SetM s.2 (fun n => (c.distances.take i).any (usesB n) || decide (n ∈ m.take s.1))) (fun s => m.length - s.1) (0, lm) ?_
    ((conv => whnf); repeat' (refine vcC_go tok {rs := [26]} rfl ?_; conv => whnf))
    refine And.intro ?_ ⟨⟨Nat.zero_le _, by simpa using hset⟩, fun s hΨ => ?_⟩
    · repeat' (first | exact True.intro | exact rfl | refine And.intro ?_ ?_)
    obtain ⟨k, lm2⟩ := s
    obtain ⟨hk2, hset2⟩ := hΨ
    dsimp only at hk2 hset2
    ((conv => whnf); repeat' (refine vcC_go tok {rs := [26]} rfl ?_; conv => whnf))
    refine ⟨fun h3 => ?_, fun h3 => ?_⟩ <;> (try simp only [BB, List.length_map] at h3) <;> ((conv => whnf); repeat' (refine vcC_go tok {rs := [26]} rfl ?_; conv => whnf))
    · have h3' : k < m.length := by omega
      repeat' ((first | (intro hlq; (try simp only [List.length_map, maxLen] at hlq)) | refine Ka ?_ | refine Kb ?_ | refine Kc (hd := rfl) (e := ?_) | refine Kc (hd := icells_eq _) (e := ?_) | refine Kd (e := ?_) | refine ⟨(rfl : look _ _ = look _ _), ?_⟩ | fail) <;> ((conv => whnf); repeat' (refine vcC_go tok {rs := [26]} rfl ?_; conv => whnf)))
      refine ⟨⟨by omega, by dsimp only; simp only [List.length_map]; omega, rfl⟩, ?_⟩
      ((conv => whnf); repeat' (refine vcC_go tok {rs := [26]} rfl ?_; conv => whnf))
      refine ⟨_, ⟨getZ_at icells (by omega) rfl, rfl⟩, ?_⟩
      ((conv => whnf); repeat' (refine vcC_go tok {rs := [26]} rfl ?_; conv => whnf))
      refine ⟨⟨⟨_, rfl⟩, hset2.2⟩, ?_⟩
      ((conv => whnf); repeat' (refine vcC_go tok {rs := [26]} rfl ?_; conv => whnf))
      repeat' ((first | (intro hlq; (try simp only [List.length_map, maxLen] at hlq)) | refine Ka ?_ | refine Kb ?_ | refine Kc (hd := rfl) (e := ?_) | refine Kc (hd := Cond.cells_eq _) (e := ?_) | refine Kd (e := ?_) | refine ⟨(rfl : look _ _ = look _ _), ?_⟩ | fail) <;> ((conv => whnf); repeat' (refine vcC_go tok {rs := [26]} rfl ?_; conv => whnf)))
      refine ⟨⟨(k + 1, mput lm2 (iD m[k]) (bD true)), ?_, ⟨by dsimp only; omega, hset2.put m[k] fun n => ?_⟩, by dsimp only; omega⟩⟩
      · repeat' (first | exact True.intro | exact rfl | refine And.intro ?_ ?_)
      · dsimp only
        rw [List.take_succ_eq_append_getElem h3', Bool.eq_iff_iff]
        simp only [List.mem_append, List.mem_singleton, Bool.or_eq_true, decide_eq_true_eq]
        constructor
        · rintro (h | h | h)
          · exact .inr (.inl h)
          · exact .inr (.inr h)
          · exact .inl h
        · rintro (h | h | h)
          · exact .inr (.inr h)
          · exact .inl h
          · exact .inr (.inl h)
    · repeat' ((first | (intro hlq; (try simp only [List.length_map, maxLen] at hlq)) | refine Ka ?_ | refine Kb ?_ | refine Kc (hd := rfl) (e := ?_) | refine Kc (hd := Cond.cells_eq _) (e := ?_) | refine Kd (e := ?_) | refine ⟨(rfl : look _ _ = look _ _), ?_⟩ | fail) <;> ((conv => whnf); repeat' (refine vcC_go tok {rs := [26]} rfl ?_; conv => whnf)))
      refine ⟨⟨(i + 1, lm2), ?_, ⟨by dsimp only; omega, ?_⟩, by dsimp only; omega⟩⟩
      · repeat' (first | exact True.intro | exact rfl | refine And.intro ?_ ?_)
      · rw [show List.take k m = m from List.take_of_length_le (by omega)] at hset2
        have e : (fun n => (c.distances.take (i + 1)).any (usesB n)) = fun n => ((c.distances.take i).any (usesB n) || decide (n ∈ m)) := by
          funext n
          rw [any_take_succ h1', hu]
        dsimp only
        rw [e]
        exact hset2
  · rw [List.take_of_length_le (by omega)] at hset
    repeat' ((first | (intro hlq; (try simp only [List.length_map, maxLen] at hlq)) | refine Ka ?_ | refine Kb ?_ | refine Kc (hd := rfl) (e := ?_) | refine Kc (hd := Cond.cells_eq _) (e := ?_) | refine Kd (e := ?_) | refine ⟨(rfl : look _ _ = look _ _), ?_⟩ | fail) <;> ((conv => whnf); repeat' (refine vcC_go tok {rs := [26]} rfl ?_; conv => whnf)))
    refine loop_upd tok {rs := [26]} [(.inl 2, 2, 3, 1)] (X := Nat × List Int) (fun x => [(39, iB x.1), (2, .own 2)]) (fun x => [(2, .sl ⟨3, 1, x.2.map icells, true⟩)]) [] (fun x => x.1 ≤ c.mats.length ∧ x.2 = unusedL c x.1) (fun x => c.mats.length - x.1) (0, []) ?_
    ((conv => whnf); repeat' (refine vcC_go tok {rs := [26]} rfl ?_; conv => whnf))
    refine ⟨by simp, ?_⟩
    ((conv => whnf); repeat' (refine vcC_go tok {rs := [26]} rfl ?_; conv => whnf))
    refine And.intro ?_ ⟨⟨by omega, rfl⟩, fun x hΦ => ?_⟩
    · repeat' (first | exact True.intro | exact rfl | refine And.intro ?_ ?_)
    obtain ⟨k, us⟩ := x
    obtain ⟨hk, hus⟩ := hΦ
    dsimp only at hk hus
    have hul := unusedL_len c k
    have hsu := unusedL_succ c k
    have hul2 : us.length ≤ k := by rw [hus]; exact hul
    ((conv => whnf); repeat' (refine vcC_go tok {rs := [26]} rfl ?_; conv => whnf))
    refine ⟨fun h3 => ?_, fun h3 => ?_⟩ <;> (try simp only [BB, List.length_map] at h3) <;> ((conv => whnf); repeat' (refine vcC_go tok {rs := [26]} rfl ?_; conv => whnf))
    · have h3' : k < c.mats.length := by omega
      repeat' ((first | (intro hlq; (try simp only [List.length_map, maxLen] at hlq)) | refine Ka ?_ | refine Kb ?_ | refine Kc (hd := rfl) (e := ?_) | refine Kc (hd := Cond.cells_eq _) (e := ?_) | refine Kd (e := ?_) | refine ⟨(rfl : look _ _ = look _ _), ?_⟩ | fail) <;> ((conv => whnf); repeat' (refine vcC_go tok {rs := [26]} rfl ?_; conv => whnf)))
      refine ⟨⟨⟨_, rfl⟩, hset.2⟩, _, hset.1 k, ?_⟩
      ((conv => whnf); repeat' (refine vcC_go tok {rs := [26]} rfl ?_; conv => whnf))
      refine ⟨fun h4 => ?_, fun h4 => ?_⟩ <;> (try simp only [BB, List.length_map] at h4) <;> ((conv => whnf); repeat' (refine vcC_go tok {rs := [26]} rfl ?_; conv => whnf))
      · have hno : c.distances.any (usesB k) = false := by
          revert h4; cases c.distances.any (usesB k) <;> simp
        rw [hno] at hsu
        repeat' ((first | (intro hlq; (try simp only [List.length_map, maxLen] at hlq)) | refine Ka ?_ | refine Kb ?_ | refine Kc (hd := rfl) (e := ?_) | refine Kc (hd := Cond.cells_eq _) (e := ?_) | refine Kd (e := ?_) | refine ⟨(rfl : look _ _ = look _ _), ?_⟩ | fail) <;> ((conv => whnf); repeat' (refine vcC_go tok {rs := [26]} rfl ?_; conv => whnf)))
        refine ⟨by simp, ?_⟩
        ((conv => whnf); repeat' (refine vcC_go tok {rs := [26]} rfl ?_; conv => whnf))
        refine ⟨fun _ _ => by simp; omega, ?_⟩
        ((conv => whnf); repeat' (refine vcC_go tok {rs := [26]} rfl ?_; conv => whnf))
        repeat' ((first | (intro hlq; (try simp only [List.length_map, maxLen] at hlq)) | refine Ka ?_ | refine Kb ?_ | refine Kc (hd := rfl) (e := ?_) | refine Kc (hd := Cond.cells_eq _) (e := ?_) | refine Kd (e := ?_) | refine ⟨(rfl : look _ _ = look _ _), ?_⟩ | fail) <;> ((conv => whnf); repeat' (refine vcC_go tok {rs := [26]} rfl ?_; conv => whnf)))
        refine ⟨⟨(k + 1, us ++ [(k : Int)]), ?_, ⟨by dsimp only; omega, by dsimp only; rw [hsu, hus]; rfl⟩, by dsimp only; omega⟩⟩
        repeat' (first | exact True.intro | exact rfl | refine And.intro ?_ ?_)
        all_goals (first | (dsimp only; rw [List.map_append]; done) | (dsimp only; rw [List.map_append]; rfl))
      · have hyes : c.distances.any (usesB k) = true := by
          revert h4; cases c.distances.any (usesB k) <;> simp
        rw [hyes] at hsu
        repeat' ((first | (intro hlq; (try simp only [List.length_map, maxLen] at hlq)) | refine Ka ?_ | refine Kb ?_ | refine Kc (hd := rfl) (e := ?_) | refine Kc (hd := Cond.cells_eq _) (e := ?_) | refine Kd (e := ?_) | refine ⟨(rfl : look _ _ = look _ _), ?_⟩ | fail) <;> ((conv => whnf); repeat' (refine vcC_go tok {rs := [26]} rfl ?_; conv => whnf)))
        refine ⟨⟨(k + 1, us), ?_, ⟨by dsimp only; omega, by dsimp only; rw [hsu, hus]; simp⟩, by dsimp only; omega⟩⟩
        repeat' (first | exact True.intro | exact rfl | refine And.intro ?_ ?_)
    · refine ⟨?_⟩
      rw [unusedM, if_pos hz, hus, show k = c.mats.length by omega, hz]

theorem mem_last {m : List Int} {e : Int} : 0 < lastN m e ↔ e ∈ m := by
  constructor
  · intro h
    exact List.mem_of_getElem? (lastN_get e m h)
  · intro h
    obtain ⟨a, ha⟩ := List.getElem?_of_mem h
    have := lastN_ge e m a ha
    omega

theorem rUnused_meets (c : Course) (hc : c.small) : Meets Tryz.prog 20 [c.d] fun r => r = .tup [.sl ((unusedM c).map icells), iD (courseE c)] := by
  have hdl := hc.distances
  have hml := hc.mats
  refine enter tok {} Tryz.func20 rfl (by kernel_rfl) Tryz.ntmps20 (by simp) fun B0 W0 V0 lent g0 => ?_
  ((conv => whnf); repeat' (refine vcC_go tok {} rfl ?_; conv => whnf))
  refine Meets.k (rCourse_meets c hc) ?_
  ((conv => whnf); repeat' (refine vcC_go tok {} rfl ?_; conv => whnf))
  refine ⟨fun h1 => ?_, fun h1 => ?_⟩ <;> (try simp only [BB, List.length_map] at h1) <;> ((conv => whnf); repeat' (refine vcC_go tok {} rfl ?_; conv => whnf))
  · exact ⟨by rw [unusedM, if_neg h1]; rfl⟩
  have hz : courseE c = 0 := Decidable.not_not.1 h1
  repeat' ((first | (intro hlq; (try simp only [List.length_map, maxLen] at hlq)) | refine Ka ?_ | refine Kb ?_ | refine Kc (hd := rfl) (e := ?_) | refine Kc (hd := Cond.cells_eq _) (e := ?_) | refine Kd (e := ?_) | refine ⟨(rfl : look _ _ = look _ _), ?_⟩ | fail) <;> ((conv => whnf); repeat' (refine vcC_go tok {} rfl ?_; conv => whnf)))
  refine loop_upd tok {} [(.inl 5, 5, 3, 1)] (X := Nat × List Int) (fun x => [(6, iB x.1), (5, .own 5)]) (fun x => [(5, .sl ⟨3, 1, x.2.map icells, true⟩)]) [] (fun x => x.1 ≤ c.mats.length ∧ x.2 = unusedL c x.1) (fun x => c.mats.length - x.1) (0, []) ?_
  ((conv => whnf); repeat' (refine vcC_go tok {} rfl ?_; conv => whnf))
  refine ⟨by simp, ?_⟩
  ((conv => whnf); repeat' (refine vcC_go tok {} rfl ?_; conv => whnf))
  refine And.intro ?_ ⟨⟨by omega, rfl⟩, fun x hΦ => ?_⟩
  · repeat' (first | exact True.intro | exact rfl | refine And.intro ?_ ?_)
  obtain ⟨k, us⟩ := x
  obtain ⟨hk, hus⟩ := hΦ
  dsimp only at hk hus
  have hul := unusedL_len c k
  have hsu := unusedL_succ c k
  have hul2 : us.length ≤ k := by rw [hus]; exact hul
  ((conv => whnf); repeat' (refine vcC_go tok {} rfl ?_; conv => whnf))
  repeat' ((first | (intro hlq; (try simp only [List.length_map, maxLen] at hlq)) | refine Ka ?_ | refine Kb ?_ | refine Kc (hd := rfl) (e := ?_) | refine Kc (hd := Cond.cells_eq _) (e := ?_) | refine Kd (e := ?_) | refine ⟨(rfl : look _ _ = look _ _), ?_⟩ | fail) <;> ((conv => whnf); repeat' (refine vcC_go tok {} rfl ?_; conv => whnf)))
  refine ⟨fun h3 => ?_, fun h3 => ?_⟩ <;> (try simp only [BB, List.length_map] at h3) <;> ((conv => whnf); repeat' (refine vcC_go tok {} rfl ?_; conv => whnf))
  · have h3' : k < c.mats.length := by omega
    repeat' ((first | (intro hlq; (try simp only [List.length_map, maxLen] at hlq)) | refine Ka ?_ | refine Kb ?_ | refine Kc (hd := rfl) (e := ?_) | refine Kc (hd := Cond.cells_eq _) (e := ?_) | refine Kd (e := ?_) | refine ⟨(rfl : look _ _ = look _ _), ?_⟩ | fail) <;> ((conv => whnf); repeat' (refine vcC_go tok {} rfl ?_; conv => whnf)))
    refine loop_upd tok {} [] (X := Nat × Bool) (fun s => [(8, iB s.1), (7, .d (bD s.2))]) (fun _ => []) [] (fun s => s.1 ≤ c.distances.length ∧ s.2 = (c.distances.take s.1).any (usesB k)) (fun s => c.distances.length - s.1) (0, false) ?_
    ((conv => whnf); repeat' (refine vcC_go tok {} rfl ?_; conv => whnf))
    refine And.intro ?_ ⟨⟨Nat.zero_le _, by simp⟩, fun s hΨ => ?_⟩
    · repeat' (first | exact True.intro | exact rfl | refine And.intro ?_ ?_)
    obtain ⟨i, b⟩ := s
    obtain ⟨hi, hbq⟩ := hΨ
    dsimp only at hi hbq
    ((conv => whnf); repeat' (refine vcC_go tok {} rfl ?_; conv => whnf))
    repeat' ((first | (intro hlq; (try simp only [List.length_map, maxLen] at hlq)) | refine Ka ?_ | refine Kb ?_ | refine Kc (hd := rfl) (e := ?_) | refine Kc (hd := Cond.cells_eq _) (e := ?_) | refine Kd (e := ?_) | refine ⟨(rfl : look _ _ = look _ _), ?_⟩ | fail) <;> ((conv => whnf); repeat' (refine vcC_go tok {} rfl ?_; conv => whnf)))
    refine ⟨fun h2 => ?_, fun h2 => ?_⟩ <;> (try simp only [BB, List.length_map] at h2) <;> ((conv => whnf); repeat' (refine vcC_go tok {} rfl ?_; conv => whnf))
    · have h1' : i < c.distances.length := by omega
      have hkd := dist_ok hz (List.getElem_mem h1')
      have hcnt := hc.route _ (List.getElem_mem h1')
      have hs := any_take_succ (p := usesB k) h1'
      have hEx := rExp_meets c.distances[i].route hcnt
      rw [hkd.ex] at hEx
      have hln := lastN_le (k : Int) (Part.fullL c.distances[i].route)
      have hle := hkd.le
      have hml := mem_last (m := Part.fullL c.distances[i].route) (e := (k : Int))
      repeat' ((first | (intro hlq; (try simp only [List.length_map, maxLen] at hlq)) | refine Meets.k (hEx) ?_ | refine Meets.k (last_meets (Part.fullL c.distances[i].route) k) ?_ | ((refine ⟨fun (hb : _ = true) => ?_, fun (hb : _ = false) => ?_⟩) <;> (try simp only [BB, List.length_map] at hb)) | refine Ka ?_ | refine Kb ?_ | refine Kc (hd := rfl) (e := ?_) | refine Kc (hd := Distance.cells_eq _) (e := ?_) | refine Kd (e := ?_) | refine ⟨(rfl : look _ _ = look _ _), ?_⟩ | fail) <;> ((conv => whnf); repeat' (refine vcC_go tok {} rfl ?_; conv => whnf)))
      · refine ⟨⟨(i + 1, true), ?_, ⟨by dsimp only; omega, ?_⟩, by dsimp only; omega⟩⟩
        · repeat' (first | exact True.intro | exact rfl | refine And.intro ?_ ?_)
        · dsimp only
          rw [hs, ← hbq, (by assumption : b = true)]; rfl
      · refine ⟨⟨(i + 1, decide ((lastN (Part.fullL c.distances[i].route) k : Int) - 1 ≥ 0)), ?_, ⟨by dsimp only; omega, ?_⟩, by dsimp only; omega⟩⟩
        · repeat' (first | exact True.intro | exact rfl | refine And.intro ?_ ?_)
        · dsimp only
          rw [hs, ← hbq, (by assumption : b = false), Bool.false_or, usesB, decide_eq_decide, ← hml]
          omega
    · rw [List.take_of_length_le (by omega)] at hbq
      refine ⟨fun h4 => ?_, fun h4 => ?_⟩ <;> (try simp only [BB, List.length_map] at h4) <;> ((conv => whnf); repeat' (refine vcC_go tok {} rfl ?_; conv => whnf))
      · have hno : c.distances.any (usesB k) = false := by rw [← hbq]; exact h4
        rw [hno] at hsu
        repeat' ((first | (intro hlq; (try simp only [List.length_map, maxLen] at hlq)) | refine Ka ?_ | refine Kb ?_ | refine Kc (hd := rfl) (e := ?_) | refine Kc (hd := Cond.cells_eq _) (e := ?_) | refine Kd (e := ?_) | refine ⟨(rfl : look _ _ = look _ _), ?_⟩ | fail) <;> ((conv => whnf); repeat' (refine vcC_go tok {} rfl ?_; conv => whnf)))
        refine ⟨by simp, ?_⟩
        ((conv => whnf); repeat' (refine vcC_go tok {} rfl ?_; conv => whnf))
        refine ⟨fun _ _ => by simp; omega, ?_⟩
        ((conv => whnf); repeat' (refine vcC_go tok {} rfl ?_; conv => whnf))
        repeat' ((first | (intro hlq; (try simp only [List.length_map, maxLen] at hlq)) | refine Ka ?_ | refine Kb ?_ | refine Kc (hd := rfl) (e := ?_) | refine Kc (hd := Cond.cells_eq _) (e := ?_) | refine Kd (e := ?_) | refine ⟨(rfl : look _ _ = look _ _), ?_⟩ | fail) <;> ((conv => whnf); repeat' (refine vcC_go tok {} rfl ?_; conv => whnf)))
        refine ⟨⟨(k + 1, us ++ [(k : Int)]), ?_, ⟨by dsimp only; omega, by dsimp only; rw [hsu, hus]; rfl⟩, by dsimp only; omega⟩⟩
        repeat' (first | exact True.intro | exact rfl | refine And.intro ?_ ?_)
        all_goals (first | (dsimp only; rw [List.map_append]; done) | (dsimp only; rw [List.map_append]; rfl))
      · have hyes : c.distances.any (usesB k) = true := by
          rw [← hbq]
          revert h4; cases b <;> simp
        rw [hyes] at hsu
        repeat' ((first | (intro hlq; (try simp only [List.length_map, maxLen] at hlq)) | refine Ka ?_ | refine Kb ?_ | refine Kc (hd := rfl) (e := ?_) | refine Kc (hd := Cond.cells_eq _) (e := ?_) | refine Kd (e := ?_) | refine ⟨(rfl : look _ _ = look _ _), ?_⟩ | fail) <;> ((conv => whnf); repeat' (refine vcC_go tok {} rfl ?_; conv => whnf)))
        refine ⟨⟨(k + 1, us), ?_, ⟨by dsimp only; omega, by dsimp only; rw [hsu, hus]; simp⟩, by dsimp only; omega⟩⟩
        repeat' (first | exact True.intro | exact rfl | refine And.intro ?_ ?_)
  · refine ⟨?_⟩
    rw [unusedM, if_pos hz, hus, show k = c.mats.length by omega, hz]
end Go.Proofs.YtkkohadkpogdfaaGreat.Dx

