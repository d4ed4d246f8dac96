/- Between; positions in the reference. -/
import Derived.Test.YtkkohadkpogdfaaGreatOd
import Derived.Test.YtkkohadkpogdfaaGreatMl
namespace Go.Proofs.YtkkohadkpogdfaaGreat.Dx
open Go Go.RowKit
set_option linter.all false
set_option maxRecDepth 100000
set_option maxHeartbeats 16000000

structure Built (c : Course) (d x : Int) : Prop where
  zero : buildE c d x = 0
  valid : Valid c d
  x0 : 0 ≤ x
  len : (matsX c d x).length = (mats0 c d).length + x.toNat
  le : (matsX c d x).length ≤ 256
theorem insL_len (m : List Int) (e : Int) (n : Nat) : (insL m e n).length = m.length + n := by
  have := lastN_le e m
  simp only [insL, List.length_append, List.length_take, List.length_drop, List.length_replicate]
  omega
theorem built_of {c : Course} {d x : Int} (h : buildE c d x = 0) : Built c d x := by
  have h0 := h
  rw [buildE] at h
  split at h
  · rename_i h1; exact absurd h h1
  · rename_i h1
    split at h
    · omega
    · rename_i h2
      split at h
      · omega
      · rename_i h3
        have hv := valid_of (Decidable.not_not.1 h1)
        have hl : (matsX c d x).length = (mats0 c d).length + x.toNat := by
          rw [matsX]
          split
          · rw [insL_len]
          · have : x.toNat = 0 := by omega
            omega
        exact ⟨h0, hv, by omega, hl, by omega⟩
theorem Built.m {c : Course} {d x : Int} (h : Built c d x) : buildM c d x = matsX c d x := buildM_zero h.zero
theorem Built.l {c : Course} {d x : Int} (h : Built c d x) : buildL c d x = legML c.legs := by rw [buildL, if_pos h.zero]
theorem Built.r {c : Course} {d x : Int} (h : Built c d x) : routeM c d x = matsX c d x := by rw [routeM, if_pos h.zero]

def betweenE (c : Course) (d x f t : Int) : Int := if buildE c d x ≠ 0 then buildE c d x else if f < 0 ∨ f > t ∨ t ≥ (matsX c d x).length then 90 else 0
def betweenS (c : Course) (d x f t : Int) : Int × Int := if betweenE c d x f t = 0 then spanF c (matsX c d x) f.toNat (t.toNat - f.toNat) else (0, 0)

theorem Between_meets (c : Course) (hc : c.small) (d x f t : Int) : Meets Tryz.prog 15 [c.d, iD d, iD x, iD f, iD t] fun r => r = .tup [spD (betweenS c d x f t), iD (betweenE c d x f t)] := by
  refine enter tok {} Tryz.func15 rfl (by kernel_rfl) Tryz.ntmps15 (by simp) fun B0 W0 V0 lent g0 => ?_
  ((conv => whnf); repeat' (refine vcC_go tok {} rfl ?_; conv => whnf))
  refine Meets.k (build_meets c hc d x) ?_
  ((conv => whnf); repeat' (refine vcC_go tok {} rfl ?_; conv => whnf))
  repeat' ((first | (intro hlq; (try simp only [List.length_map, maxLen] at hlq)) | refine Ka ?_ | refine Kb ?_ | refine Kc (hd := rfl) (e := ?_) | refine Kc (hd := Cond.cells_eq _) (e := ?_) | refine Kd (e := ?_) | refine ⟨(rfl : look _ _ = look _ _), ?_⟩ | fail) <;> ((conv => whnf); repeat' (refine vcC_go tok {} rfl ?_; conv => whnf)))
  refine ⟨fun h1 => ?_, fun h1 => ?_⟩ <;> (try simp only [BB, List.length_map] at h1) <;> ((conv => whnf); repeat' (refine vcC_go tok {} rfl ?_; conv => whnf))
  · have e : betweenE c d x f t = buildE c d x := by rw [betweenE, if_pos h1]
    exact ⟨by rw [betweenS, if_neg (by rw [e]; exact h1), e]⟩
  have hB := built_of (Decidable.not_not.1 h1)
  have hle := hB.le
  rw [hB.m, hB.l]
  repeat' ((first | (intro hlq; (try simp only [List.length_map, maxLen] at hlq)) | ((refine ⟨fun (hb : _ = true) => ?_, fun (hb : _ = false) => ?_⟩) <;> (try simp only [BB, List.length_map] at hb)) | refine Ka ?_ | refine Kb ?_ | refine Kc (hd := rfl) (e := ?_) | refine Kc (hd := Cond.cells_eq _) (e := ?_) | refine Kd (e := ?_) | refine ⟨(rfl : look _ _ = look _ _), ?_⟩ | fail) <;> ((conv => whnf); repeat' (refine vcC_go tok {} rfl ?_; conv => whnf)))
  · have e : betweenE c d x f t = 90 := by rw [betweenE, if_neg h1, if_pos (by omega)]
    exact ⟨by rw [betweenS, if_neg (by rw [e]; decide), e]⟩
  · have e : betweenE c d x f t = 90 := by rw [betweenE, if_neg h1, if_pos (by omega)]
    exact ⟨by rw [betweenS, if_neg (by rw [e]; decide), e]⟩
  · have e : betweenE c d x f t = 90 := by rw [betweenE, if_neg h1, if_pos (by omega)]
    exact ⟨by rw [betweenS, if_neg (by rw [e]; decide), e]⟩
  have e : betweenE c d x f t = 0 := by rw [betweenE, if_neg h1, if_neg (by omega)]
  obtain ⟨f, rfl⟩ := Int.eq_ofNat_of_zero_le (show 0 ≤ f by omega)
  obtain ⟨t, rfl⟩ := Int.eq_ofNat_of_zero_le (show 0 ≤ t by omega)
  refine Meets.k (span_meets c hB.valid.nums (matsX c d x) (by omega) f t (by omega) (by omega)) ?_
  ((conv => whnf); repeat' (refine vcC_go tok {} rfl ?_; conv => whnf))
  exact ⟨by rw [betweenS, if_pos e, e]; rfl⟩

theorem rBetween_meets (c : Course) (hc : c.small) (d x f t : Int) : Meets Tryz.prog 16 [c.d, iD d, iD x, iD f, iD t] fun r => r = .tup [spD (betweenS c d x f t), iD (betweenE c d x f t)] := by
  refine enter tok {} Tryz.func16 rfl (by kernel_rfl) Tryz.ntmps16 (by simp) fun B0 W0 V0 lent g0 => ?_
  ((conv => whnf); repeat' (refine vcC_go tok {} rfl ?_; conv => whnf))
  refine Meets.k (rRoute_meets c hc d x) ?_
  ((conv => whnf); repeat' (refine vcC_go tok {} rfl ?_; conv => whnf))
  repeat' ((first | (intro hlq; (try simp only [List.length_map, maxLen] at hlq)) | refine Ka ?_ | refine Kb ?_ | refine Kc (hd := rfl) (e := ?_) | refine Kc (hd := Cond.cells_eq _) (e := ?_) | refine Kd (e := ?_) | refine ⟨(rfl : look _ _ = look _ _), ?_⟩ | fail) <;> ((conv => whnf); repeat' (refine vcC_go tok {} rfl ?_; conv => whnf)))
  refine ⟨fun h1 => ?_, fun h1 => ?_⟩ <;> (try simp only [BB, List.length_map] at h1) <;> ((conv => whnf); repeat' (refine vcC_go tok {} rfl ?_; conv => whnf))
  · have e : betweenE c d x f t = buildE c d x := by rw [betweenE, if_pos h1]
    exact ⟨by rw [betweenS, if_neg (by rw [e]; exact h1), e]⟩
  have hB := built_of (Decidable.not_not.1 h1)
  have hle := hB.le
  rw [hB.r]
  repeat' ((first | (intro hlq; (try simp only [List.length_map, maxLen] at hlq)) | ((refine ⟨fun (hb : _ = true) => ?_, fun (hb : _ = false) => ?_⟩) <;> (try simp only [BB, List.length_map] at hb)) | refine Ka ?_ | refine Kb ?_ | refine Kc (hd := rfl) (e := ?_) | refine Kc (hd := Cond.cells_eq _) (e := ?_) | refine Kd (e := ?_) | refine ⟨(rfl : look _ _ = look _ _), ?_⟩ | fail) <;> ((conv => whnf); repeat' (refine vcC_go tok {} rfl ?_; conv => whnf)))
  · have e : betweenE c d x f t = 90 := by rw [betweenE, if_neg h1, if_pos (by omega)]
    exact ⟨by rw [betweenS, if_neg (by rw [e]; decide), e]⟩
  · have e : betweenE c d x f t = 90 := by rw [betweenE, if_neg h1, if_pos (by omega)]
    exact ⟨by rw [betweenS, if_neg (by rw [e]; decide), e]⟩
  · have e : betweenE c d x f t = 90 := by rw [betweenE, if_neg h1, if_pos (by omega)]
    exact ⟨by rw [betweenS, if_neg (by rw [e]; decide), e]⟩
  have e : betweenE c d x f t = 0 := by rw [betweenE, if_neg h1, if_neg (by omega)]
  obtain ⟨f, rfl⟩ := Int.eq_ofNat_of_zero_le (show 0 ≤ f by omega)
  obtain ⟨t, rfl⟩ := Int.eq_ofNat_of_zero_le (show 0 ≤ t by omega)
  refine Meets.k (rbetween_meets c hB.valid.nums (matsX c d x) (by omega) f t (by omega) (by omega)) ?_
  ((conv => whnf); repeat' (refine vcC_go tok {} rfl ?_; conv => whnf))
  exact ⟨by rw [betweenS, if_pos e, e]; rfl⟩

/-! ### positions -/

def posB (m : List Int) (mat lap : Int) (i : Nat) : Bool := decide (m.getD i 0 = mat) && decide ((lapN m i : Int) = lap)
def posR (m : List Int) (mat lap : Int) : Int × Int := match (List.range m.length).find? (posB m mat lap) with | some i => ((i : Int), 0) | none => (0, 90)
theorem posR_some {m : List Int} {mat lap : Int} {i : Nat} (hi : i < m.length) (h : posB m mat lap i = true) (hp : ∀ j < i, posB m mat lap j = false) : posR m mat lap = ((i : Int), 0) := by
  rw [posR, (List.find?_range_eq_some).2 ⟨h, by simpa using hi, fun j hj => by rw [hp j hj]; rfl⟩]
theorem posR_none {m : List Int} {mat lap : Int} (hp : ∀ j < m.length, posB m mat lap j = false) : posR m mat lap = (0, 90) := by
  rw [posR, List.find?_eq_none.2 fun j hj => by rw [hp j (List.mem_range.1 hj)]; simp]
def positionR (c : Course) (d x mat lap : Int) : Int × Int := if buildE c d x ≠ 0 then (0, buildE c d x) else posR (matsX c d x) mat lap

theorem rPosition_meets (c : Course) (hc : c.small) (d x mat lap : Int) : Meets Tryz.prog 14 [c.d, iD d, iD x, iD mat, iD lap] fun r => r = .tup [iD (positionR c d x mat lap).1, iD (positionR c d x mat lap).2] := by
  refine enter tok {} Tryz.func14 rfl (by kernel_rfl) Tryz.ntmps14 (by simp) fun B0 W0 V0 lent g0 => ?_
  ((conv => whnf); repeat' (refine vcC_go tok {} rfl ?_; conv => whnf))
  refine Meets.k (rRoute_meets c hc d x) ?_
  ((conv => whnf); repeat' (refine vcC_go tok {} rfl ?_; conv => whnf))
  repeat' ((first | (intro hlq; (try simp only [List.length_map, maxLen] at hlq)) | refine Ka ?_ | refine Kb ?_ | refine Kc (hd := rfl) (e := ?_) | refine Kc (hd := Cond.cells_eq _) (e := ?_) | refine Kd (e := ?_) | refine ⟨(rfl : look _ _ = look _ _), ?_⟩ | fail) <;> ((conv => whnf); repeat' (refine vcC_go tok {} rfl ?_; conv => whnf)))
  refine ⟨fun h1 => ?_, fun h1 => ?_⟩ <;> (try simp only [BB, List.length_map] at h1) <;> ((conv => whnf); repeat' (refine vcC_go tok {} rfl ?_; conv => whnf))
  · exact ⟨by rw [positionR, if_pos h1]⟩
  have hB := built_of (Decidable.not_not.1 h1)
  have hle := hB.le
  have hP : positionR c d x mat lap = posR (matsX c d x) mat lap := by rw [positionR, if_neg h1]
  rw [hB.r, hP]
  generalize matsX c d x = m at *
  refine loop_upd tok {} [] (X := Nat) (fun i => [(14, iB i)]) (fun _ => []) [] (fun i => i ≤ m.length ∧ ∀ j < i, posB m mat lap j = false) (fun i => m.length - i) 0 ?_
  ((conv => whnf); repeat' (refine vcC_go tok {} rfl ?_; conv => whnf))
  refine And.intro ?_ ⟨⟨by omega, by simp⟩, fun i hΦ => ?_⟩
  · repeat' (first | exact True.intro | exact rfl | refine And.intro ?_ ?_)
  obtain ⟨hi, hp⟩ := hΦ
  ((conv => whnf); repeat' (refine vcC_go tok {} rfl ?_; conv => whnf))
  repeat' ((first | (intro hlq; (try simp only [List.length_map, maxLen] at hlq)) | refine Ka ?_ | refine Kb ?_ | refine Kc (hd := rfl) (e := ?_) | refine Kc (hd := Cond.cells_eq _) (e := ?_) | refine Kd (e := ?_) | refine ⟨(rfl : look _ _ = look _ _), ?_⟩ | fail) <;> ((conv => whnf); repeat' (refine vcC_go tok {} rfl ?_; conv => whnf)))
  refine ⟨fun h2 => ?_, fun h2 => ?_⟩ <;> (try simp only [BB, List.length_map] at h2) <;> ((conv => whnf); repeat' (refine vcC_go tok {} rfl ?_; conv => whnf))
  · have h1' : i < m.length := by omega
    have hg := getD_of h1'
    have step : posB m mat lap i = false → ∀ j < i + 1, posB m mat lap j = false := fun h j hj => by
      rcases Nat.lt_or_ge j i with h3 | h3
      · exact hp j h3
      · rw [show j = i by omega]; exact h
    repeat' ((first | (intro hlq; (try simp only [List.length_map, maxLen] at hlq)) | refine Meets.k (Lap_meets m i h1' (by omega)) ?_ | ((refine ⟨fun (hb : _ = true) => ?_, fun (hb : _ = false) => ?_⟩) <;> (try simp only [BB, List.length_map] at hb)) | refine Ka ?_ | refine Kb ?_ | refine Kc (hd := rfl) (e := ?_) | refine Kc (hd := icells_eq _) (e := ?_) | refine Kd (e := ?_) | refine ⟨(rfl : look _ _ = look _ _), ?_⟩ | fail) <;> ((conv => whnf); repeat' (refine vcC_go tok {} rfl ?_; conv => whnf)))
    · refine ⟨?_⟩
      rw [posR_some h1' (by simp only [posB, hg, Bool.and_eq_true, decide_eq_true_eq]; exact ⟨by assumption, by assumption⟩) hp]
    · refine ⟨⟨i + 1, ?_, ⟨by omega, step (by simp only [posB, hg, Bool.and_eq_false_iff, decide_eq_false_iff_not]; exact .inr (by assumption))⟩, by omega⟩⟩
      repeat' (first | exact True.intro | exact rfl | refine And.intro ?_ ?_)
    · refine ⟨⟨i + 1, ?_, ⟨by omega, step (by simp only [posB, hg, Bool.and_eq_false_iff, decide_eq_false_iff_not]; exact .inl (by assumption))⟩, by omega⟩⟩
      repeat' (first | exact True.intro | exact rfl | refine And.intro ?_ ?_)
  · refine ⟨?_⟩
    rw [posR_none fun j hj => hp j (by omega)]
end Go.Proofs.YtkkohadkpogdfaaGreat.Dx

/- course.Position. -/
namespace Go.Proofs.YtkkohadkpogdfaaGreat.Dx
open Go Go.RowKit
set_option linter.all false
set_option maxRecDepth 100000
set_option maxHeartbeats 16000000

noncomputable abbrev pO (c : Course) (m : List Int) (mat lap e a : Int) : List (Nat × Blk) :=
  [(12, .box [.d (.sl (m.map icells)), .d (.mp (legML c.legs))] 71), (11, .box [iB e] 37), (10, .box [iB a] 3), (9, .box [iB lap] 3), (8, .box [iB mat] 3), (5, .box (c.cells.map .d) 33)]

theorem Position_meets (c : Course) (hc : c.small) (d x mat lap : Int) : Meets Tryz.prog 13 [c.d, iD d, iD x, iD mat, iD lap] fun r => r = .tup [iD (positionR c d x mat lap).1, iD (positionR c d x mat lap).2] := by
  refine enter tok {} Tryz.func13 rfl (by kernel_rfl) Tryz.ntmps13 (by simp) fun B0 W0 V0 lent g0 => ?_
  ((conv => whnf); repeat' (refine vcC_go tok {} rfl ?_; conv => whnf))
  refine Meets.k (build_meets c hc d x) ?_
  ((conv => whnf); repeat' (refine vcC_go tok {} rfl ?_; conv => whnf))
  repeat' ((first | (intro hlq; (try simp only [List.length_map, maxLen] at hlq)) | refine Ka ?_ | refine Kb ?_ | refine Kc (hd := rfl) (e := ?_) | refine Kc (hd := Cond.cells_eq _) (e := ?_) | refine Kd (e := ?_) | refine ⟨(rfl : look _ _ = look _ _), ?_⟩ | fail) <;> ((conv => whnf); repeat' (refine vcC_go tok {} rfl ?_; conv => whnf)))
  refine ⟨fun h1 => ?_, fun h1 => ?_⟩ <;> (try simp only [BB, List.length_map] at h1) <;> ((conv => whnf); repeat' (refine vcC_go tok {} rfl ?_; conv => whnf))
  · refine draw_rule tok (cf := {}) (by kernel_rfl) [.p 0, .s 1 [], .s 2 [0]] (by kernel_rfl) ?_
    ((conv => whnf); repeat' (refine vcC_go tok {} rfl ?_; conv => whnf))
    repeat' (first | (refine ⟨(rfl : look _ _ = look _ _), ?_⟩; ((conv => whnf); repeat' (refine vcC_go tok {} rfl ?_; conv => whnf))) | fail)
    exact ⟨by rw [positionR, if_pos h1]⟩
  have hB := built_of (Decidable.not_not.1 h1)
  have hle := hB.le
  have hP : positionR c d x mat lap = posR (matsX c d x) mat lap := by rw [positionR, if_neg h1]
  rw [hB.m, hB.l, hP]
  generalize matsX c d x = m at *
  refine Meets.k (laps_meets m (legML c.legs)) ?_
  ((conv => whnf); repeat' (refine vcC_go tok {} rfl ?_; conv => whnf))
  refine range_rule tok {} {} 3000 (X := Nat) (Y := {i : Nat // (i < m.length ∧ posB m mat lap i = true) ∧ ∀ j < i, posB m mat lap j = false}) (fun _ => pO c m mat lap (buildE c d x) 0) (fun y => pO c m mat lap 0 y.1) (fun _ => .ret)
    (fun i ds => (i < m.length ∧ ∀ j < i, posB m mat lap j = false) ∧ ds = [iD i, iD (lapN m i : Nat)]) (fun i _ i' => (i' ≤ m.length ∧ ∀ j < i', posB m mat lap j = false) ∧ i' = i + 1) (fun _ _ _ => True) (fun i => i = m.length ∧ ∀ j < m.length, posB m mat lap j = false) 0
    (F := 48) (fs := []) (cs := [.d (.ptr [.sl (m.map icells), .mp (legML c.legs)] 0)]) rfl (Nat.le_refl _) ?_ Tryz.func48 rfl (by kernel_rfl) Tryz.ntmps48 (by simp) (by simp) (by simp) ?_ rfl (by simp) rfl (fun _ => rfl) (fun _ => rfl) (fun _ => rfl) rfl rfl ?_ ?_ ?_
  · conv => whnf
    exact rfl
  · repeat' (first | exact True.intro | exact rfl | refine And.intro ?_ ?_)
  · rintro i ds ⟨_, rfl⟩
    rfl
  · intro B0 W0 V0 lent g0 rc g V1 hY
    ((conv => whnf); repeat' (refine vcC_go tok {} rfl ?_; conv => whnf))
    repeat' ((first | (intro hlq; (try simp only [List.length_map, maxLen] at hlq)) | refine Ka ?_ | refine Kb ?_ | refine Kc (hd := rfl) (e := ?_) | refine Kc (hd := Cond.cells_eq _) (e := ?_) | refine Kd (e := ?_) | refine ⟨(rfl : look _ _ = look _ _), ?_⟩ | fail) <;> ((conv => whnf); repeat' (refine vcC_go tok {} rfl ?_; conv => whnf)))
    refine loop_upd tok {} [] (X := Nat × List (D × D)) (fun s => [(10, iB s.1)]) (fun s => [(6, .mp s.2)]) [] (fun s => (s.1 ≤ m.length ∧ ∀ j < s.1, posB m mat lap j = false) ∧ (∀ n : Int, (mget s.2 (iD n)).getD (iD 0) = iD ((m.take s.1).count n)) ∧ ∀ p ∈ s.2, KInt .i64 p.1) (fun s => m.length - s.1) (0, []) ?_
    ((conv => whnf); repeat' (refine vcC_go tok {} rfl ?_; conv => whnf))
    refine And.intro ?_ ⟨⟨⟨Nat.zero_le _, fun j hj => by simp at hj⟩, fun n => by simp [mget], fun p hp => by cases hp⟩, fun s hΦ => ?_⟩
    · repeat' (first | exact True.intro | exact rfl | refine And.intro ?_ ?_)
    obtain ⟨i, lm⟩ := s
    obtain ⟨⟨hi, hp⟩, hget, hkey⟩ := hΦ
    dsimp only at hi hp hget hkey
    ((conv => whnf); repeat' (refine vcC_go tok {} rfl ?_; conv => whnf))
    refine ⟨fun h2 => ?_, fun h2 => ?_⟩ <;> (try simp only [BB, List.length_map] at h2) <;> ((conv => whnf); repeat' (refine vcC_go tok {} rfl ?_; conv => whnf))
    · have h1' : i < m.length := by omega
      have hcl := List.count_le_length (a := m[i]) (l := m.take i)
      rw [List.length_take] at hcl
      have hgd := getD_of h1'
      have hput := imap_put (x := m[i]) hget
      have hkey2 := imap_keys (x := m[i]) (v := iD ((List.count m[i] (List.take i m) : Int) + 1)) hkey
      have hts : List.take i m ++ [m[i]] = List.take (i + 1) m := (List.take_succ_eq_append_getElem h1').symm
      rw [hts] at hput
      have hlap : lapN m i = List.count m[i] (List.take (i + 1) m) := by rw [lapN, hgd]
      repeat' ((first | (intro hlq; (try simp only [List.length_map, maxLen] at hlq)) | refine Ka ?_ | refine Kb ?_ | refine Kc (hd := rfl) (e := ?_) | refine Kc (hd := icells_eq _) (e := ?_) | refine Kd (e := ?_) | refine ⟨(rfl : look _ _ = look _ _), ?_⟩ | fail) <;> ((conv => whnf); repeat' (refine vcC_go tok {} rfl ?_; conv => whnf)))
      refine ⟨⟨⟨_, rfl⟩, hkey⟩, _, hget m[i], ?_⟩
      ((conv => whnf); repeat' (refine vcC_go tok {} rfl ?_; conv => whnf))
      refine ⟨fun _ _ => by simp only [inKind]; omega, ?_⟩
      ((conv => whnf); repeat' (refine vcC_go tok {} rfl ?_; conv => whnf))
      refine ⟨⟨⟨_, rfl⟩, hkey⟩, ?_⟩
      ((conv => whnf); repeat' (refine vcC_go tok {} rfl ?_; conv => whnf))
      refine ⟨⟨⟨_, rfl⟩, hkey2⟩, _, hput m[i], ?_⟩
      ((conv => whnf); repeat' (refine vcC_go tok {} rfl ?_; conv => whnf))
      rw [← hlap]
      refine ⟨_, ?_, (hY i _ ⟨⟨h1', hp⟩, rfl⟩).mono ?_⟩
      · repeat' (first | exact True.intro | exact rfl | refine And.intro ?_ ?_)
      intro o O' h
      rcases h with ⟨i', ⟨⟨hi', hp'⟩, rfl⟩, rfl, rfl⟩ | ⟨y, _, rfl, rfl⟩
      · ((conv => whnf); repeat' (refine vcC_go tok {} rfl ?_; conv => whnf))
        repeat' ((first | (intro hlq; (try simp only [List.length_map, maxLen] at hlq)) | refine Ka ?_ | refine Kb ?_ | refine Kc (hd := rfl) (e := ?_) | refine Kc (hd := Cond.cells_eq _) (e := ?_) | refine Kd (e := ?_) | refine ⟨(rfl : look _ _ = look _ _), ?_⟩ | fail) <;> ((conv => whnf); repeat' (refine vcC_go tok {} rfl ?_; conv => whnf)))
        refine ⟨fun h3 => absurd h3 (by decide), fun _ => ?_⟩
        ((conv => whnf); repeat' (refine vcC_go tok {} rfl ?_; conv => whnf))
        repeat' ((first | (intro hlq; (try simp only [List.length_map, maxLen] at hlq)) | refine Ka ?_ | refine Kb ?_ | refine Kc (hd := rfl) (e := ?_) | refine Kc (hd := Cond.cells_eq _) (e := ?_) | refine Kd (e := ?_) | refine ⟨(rfl : look _ _ = look _ _), ?_⟩ | fail) <;> ((conv => whnf); repeat' (refine vcC_go tok {} rfl ?_; conv => whnf)))
        refine ⟨⟨(i + 1, mput lm (iD m[i]) (iD ((List.count m[i] (List.take i m) : Int) + 1))), ?_, ⟨⟨hi', hp'⟩, hput, hkey2⟩, by dsimp only; omega⟩⟩
        repeat' (first | exact True.intro | exact rfl | refine And.intro ?_ ?_)
      · ((conv => whnf); repeat' (refine vcC_go tok {} rfl ?_; conv => whnf))
        repeat' ((first | (intro hlq; (try simp only [List.length_map, maxLen] at hlq)) | refine Ka ?_ | refine Kb ?_ | refine Kc (hd := rfl) (e := ?_) | refine Kc (hd := Cond.cells_eq _) (e := ?_) | refine Kd (e := ?_) | refine ⟨(rfl : look _ _ = look _ _), ?_⟩ | fail) <;> ((conv => whnf); repeat' (refine vcC_go tok {} rfl ?_; conv => whnf)))
        refine ⟨fun _ => ?_, fun h3 => absurd h3 (by decide)⟩
        ((conv => whnf); repeat' (refine vcC_go tok {} rfl ?_; conv => whnf))
        refine ⟨_, .d (.tup []), ⟨?_, ?_, rfl⟩, ⟨_, rfl, .inr ⟨y, rfl⟩⟩⟩
        · repeat' (first | exact True.intro | exact rfl | refine And.intro ?_ ?_)
        · repeat' (first | exact True.intro | exact rfl | refine And.intro ?_ ?_)
    · obtain rfl : i = m.length := by omega
      refine ⟨_, .d (.tup []), ⟨?_, ?_, rfl⟩, ⟨_, rfl, .inl ⟨m.length, ⟨rfl, hp⟩, rfl⟩⟩⟩
      · repeat' (first | exact True.intro | exact rfl | refine And.intro ?_ ?_)
      · repeat' (first | exact True.intro | exact rfl | refine And.intro ?_ ?_)
  · ((conv => whnf); repeat' (refine vcC_go tok {} rfl ?_; conv => whnf))
    refine ⟨?_, ?_, ?_⟩
    · rintro i ds ⟨⟨hi, hp⟩, rfl⟩ B0 W0 V0 lent g0 l m0
      have hgd := getD_of hi
      have step : posB m mat lap i = false → ∀ j < i + 1, posB m mat lap j = false := fun h j hj => by
        rcases Nat.lt_or_ge j i with h3 | h3
        · exact hp j h3
        · rw [show j = i by omega]; exact h
      ((conv => whnf); repeat' (refine vcC_go tok {} rfl ?_; conv => whnf))
      refine ⟨rfl, fun B0 W0 V0 lent g0 l m0 => ?_⟩
      ((conv => whnf); repeat' (refine vcC_go tok {} rfl ?_; conv => whnf))
      refine draw_rule tok (cf := {}) (by kernel_rfl) [.p 0, .p 1, .p 2, .p 3, .p 4, .p 5, .p 6, .p 7, .p 8, .p 9, .p 10, .p 11] (by kernel_rfl) ?_
      ((conv => whnf); repeat' (refine vcC_go tok {} rfl ?_; conv => whnf))
      repeat' ((first | (intro hlq; (try simp only [List.length_map, maxLen] at hlq)) | ((refine ⟨fun (hb : _ = true) => ?_, fun (hb : _ = false) => ?_⟩) <;> (try simp only [BB, List.length_map] at hb)) | refine Ka ?_ | refine Kb ?_ | refine Kc (hd := rfl) (e := ?_) | refine Kc (hd := icells_eq _) (e := ?_) | refine Kd (e := ?_) | refine ⟨(rfl : look _ _ = look _ _), ?_⟩ | fail) <;> ((conv => whnf); repeat' (refine vcC_go tok {} rfl ?_; conv => whnf)))
      · refine ⟨⟨⟨i, ⟨hi, by simp only [posB, hgd, Bool.and_eq_true, decide_eq_true_eq]; exact ⟨by assumption, by assumption⟩⟩, hp⟩, ⟨?_, rfl⟩, rfl, trivial⟩⟩
        repeat' (first | exact True.intro | exact rfl | refine And.intro ?_ ?_)
      · refine ⟨⟨i + 1, ⟨?_, rfl⟩, ⟨by omega, step (by simp only [posB, hgd, Bool.and_eq_false_iff, decide_eq_false_iff_not]; exact .inr (by assumption))⟩, rfl⟩⟩
        repeat' (first | exact True.intro | exact rfl | refine And.intro ?_ ?_)
      · refine ⟨⟨i + 1, ⟨?_, rfl⟩, ⟨by omega, step (by simp only [posB, hgd, Bool.and_eq_false_iff, decide_eq_false_iff_not]; exact .inl (by assumption))⟩, rfl⟩⟩
        repeat' (first | exact True.intro | exact rfl | refine And.intro ?_ ?_)
    · rintro i ⟨rfl, hp⟩
      ((conv => whnf); repeat' (refine vcC_go tok {} rfl ?_; conv => whnf))
      refine ⟨?_⟩
      rw [posR_none hp]
    · rintro ⟨i, ⟨hi, hb⟩, hp⟩
      ((conv => whnf); repeat' (refine vcC_go tok {} rfl ?_; conv => whnf))
      refine ⟨?_⟩
      rw [posR_some hi hb hp]
end Go.Proofs.YtkkohadkpogdfaaGreat.Dx

